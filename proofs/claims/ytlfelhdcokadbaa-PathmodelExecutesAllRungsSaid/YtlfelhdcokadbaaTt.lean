/- The types' table of the translation, for the abstract machine. Conditions: none. -/
import Derived.Test.YtlfelhdcokadbaaAm
import Derived.Test.YtlfelhdcokadbaaProg
set_option linter.all false
namespace Go.AM
@[reducible] def k7 : K := (.pair (.int .i64) (.pair (.int .i64) (.pair .bool (.int .u8))))
@[reducible] def k13 : K := (.pair .str (.int .u64))
@[reducible] def k72 : K := (.pair (.int .i64) (.int .i64))
@[reducible] def k74 : K := (.pair (.int .i64) (.pair k72 (.pair .str .str)))
@[reducible] def k76 : K := (.pair (.int .i64) k72)
@[reducible] def k45 : K := (.pair .str (.pair (.slice 75 k74) (.pair (.slice 77 k76) .str)))
@[reducible] def k23 : K := (.pair (.int .i64) (.pair (.int .i64) (.pair (.int .i64) (.slice 46 k45))))
@[reducible] def k26 : K := (.pair (.slice 4 .bool) (.pair (.slice 4 .bool) (.slice 4 .bool)))
@[reducible] def k59 : K := (.pair (.int .i64) (.pair (.int .i64) (.pair (.int .i64) (.int .i64))))
def tt : TT := [
  (2, { agg := false, zero := [.int .i64 0], kd := some (.int .i64), bytes := 8 }),
  (3, { agg := false, zero := [.int .i64 0], kd := some (.int .i64), bytes := 8 }),
  (4, { agg := false, zero := [.bool false], kd := some .bool, bytes := 1 }),
  (5, { agg := false, zero := [.int .u8 0], kd := some (.int .u8), bytes := 1 }),
  (6, { agg := false, zero := [.int .u8 0], kd := some (.int .u8), bytes := 1 }),
  (7, { agg := true, zero := [.int .i64 0, .int .i64 0, .bool false, .int .u8 0], kd := some k7, fields := [(0, 1, false), (1, 1, false), (2, 1, false), (3, 1, false)], bytes := 24 }),
  (8, { agg := true, zero := [.int .i64 0, .int .i64 0, .bool false, .int .u8 0], kd := some k7, fields := [(0, 1, false), (1, 1, false), (2, 1, false), (3, 1, false)], bytes := 24 }),
  (9, { agg := false, zero := [.str ⟨#[]⟩], kd := some .str, bytes := 16 }),
  (10, { agg := false, zero := [.str ⟨#[]⟩], kd := some .str, bytes := 16 }),
  (11, { agg := false, zero := [.str ⟨#[]⟩], kd := some .str, bytes := 16 }),
  (12, { agg := false, zero := [.int .u64 0], kd := some (.int .u64), bytes := 8 }),
  (13, { agg := true, zero := [.str ⟨#[]⟩, .int .u64 0], kd := some k13, fields := [(0, 1, false), (1, 1, false)], bytes := 24 }),
  (14, { agg := true, zero := [.str ⟨#[]⟩, .int .u64 0], kd := some k13, fields := [(0, 1, false), (1, 1, false)], bytes := 24 }),
  (15, { agg := false, zero := [.nilp], bytes := 8 }),
  (16, { agg := false, zero := [.nilp], bytes := 8 }),
  (17, { agg := false, zero := [.nilp], bytes := 8 }),
  (18, { agg := true, zero := [.nilp], fields := [(0, 1, false)], bytes := 8 }),
  (19, { agg := true, zero := [.nilp], fields := [(0, 1, false)], bytes := 8 }),
  (21, { agg := false, zero := [.int .i32 0], kd := some (.int .i32), bytes := 4 }),
  (22, { agg := false, zero := [.nils], kd := some (.slice 46 k45), elem := 46, bytes := 24 }),
  (23, { agg := true, zero := [.int .i64 0, .int .i64 0, .int .i64 0, .nils], kd := some k23, fields := [(0, 1, false), (1, 1, false), (2, 1, false), (3, 1, false)], bytes := 48 }),
  (24, { agg := true, zero := [.int .i64 0, .int .i64 0, .int .i64 0, .nils], kd := some k23, fields := [(0, 1, false), (1, 1, false), (2, 1, false), (3, 1, false)], bytes := 48 }),
  (25, { agg := false, zero := [.nils], kd := some (.slice 4 .bool), elem := 4, bytes := 24 }),
  (26, { agg := true, zero := [.nils, .nils, .nils], kd := some k26, fields := [(0, 1, false), (1, 1, false), (2, 1, false)], bytes := 72 }),
  (27, { agg := true, zero := [.nils, .nils, .nils], kd := some k26, fields := [(0, 1, false), (1, 1, false), (2, 1, false)], bytes := 72 }),
  (28, { agg := false, zero := [.nils], kd := some (.slice 25 (.slice 4 .bool)), elem := 25, bytes := 24 }),
  (32, { agg := false, zero := [.int .i64 0], kd := some (.int .i64), bytes := 8 }),
  (40, { agg := false, zero := [.nils], kd := some (.slice 3 (.int .i64)), elem := 3, bytes := 24 }),
  (43, { agg := false, zero := [.nils], kd := some (.slice 75 k74), elem := 75, bytes := 24 }),
  (44, { agg := false, zero := [.nils], kd := some (.slice 77 k76), elem := 77, bytes := 24 }),
  (45, { agg := true, zero := [.str ⟨#[]⟩, .nils, .nils, .str ⟨#[]⟩], kd := some k45, fields := [(0, 1, false), (1, 1, false), (2, 1, false), (3, 1, false)], bytes := 80 }),
  (46, { agg := true, zero := [.str ⟨#[]⟩, .nils, .nils, .str ⟨#[]⟩], kd := some k45, fields := [(0, 1, false), (1, 1, false), (2, 1, false), (3, 1, false)], bytes := 80 }),
  (48, { agg := false, zero := [.nils], kd := some (.slice 27 k26), elem := 27, bytes := 24 }),
  (59, { agg := true, zero := [.int .i64 0, .int .i64 0, .int .i64 0, .int .i64 0], kd := some k59, fields := [(0, 1, false), (1, 1, false), (2, 1, false), (3, 1, false)], bytes := 32 }),
  (60, { agg := true, zero := [.int .i64 0, .int .i64 0, .int .i64 0, .int .i64 0], kd := some k59, fields := [(0, 1, false), (1, 1, false), (2, 1, false), (3, 1, false)], bytes := 32 }),
  (64, { agg := false, zero := [.nilp], bytes := 8 }),
  (72, { agg := true, zero := [.int .i64 0, .int .i64 0], kd := some k72, fields := [(0, 1, false), (1, 1, false)], bytes := 16 }),
  (73, { agg := true, zero := [.int .i64 0, .int .i64 0], kd := some k72, fields := [(0, 1, false), (1, 1, false)], bytes := 16 }),
  (74, { agg := true, zero := [.int .i64 0, .int .i64 0, .int .i64 0, .str ⟨#[]⟩, .str ⟨#[]⟩], kd := some k74, fields := [(0, 1, false), (1, 2, true), (3, 1, false), (4, 1, false)], bytes := 56 }),
  (75, { agg := true, zero := [.int .i64 0, .int .i64 0, .int .i64 0, .str ⟨#[]⟩, .str ⟨#[]⟩], kd := some k74, fields := [(0, 1, false), (1, 2, true), (3, 1, false), (4, 1, false)], bytes := 56 }),
  (76, { agg := true, zero := [.int .i64 0, .int .i64 0, .int .i64 0], kd := some k76, fields := [(0, 1, false), (1, 2, true)], bytes := 24 }),
  (77, { agg := true, zero := [.int .i64 0, .int .i64 0, .int .i64 0], kd := some k76, fields := [(0, 1, false), (1, 2, true)], bytes := 24 }),
  (83, { agg := true, zero := [.nils, .nils, .nils], fields := [(0, 1, false), (1, 1, false), (2, 1, false)], elem := 25, len := 3, bytes := 72 }),
  (85, { agg := true, zero := [.int .i64 0, .int .i64 0, .int .i64 0], fields := [(0, 1, false), (1, 1, false), (2, 1, false)], elem := 3, len := 3, bytes := 24 }),
  (109, { agg := false, zero := [.undef], kv := some (9, 4), bytes := 8 }),
  (110, { agg := false, zero := [.nils], kd := some (.slice 9 .str), elem := 9, bytes := 24 }),
  (121, { agg := true, zero := [.bool false, .bool false, .bool false, .bool false], fields := [(0, 1, false), (1, 1, false), (2, 1, false), (3, 1, false)], elem := 4, len := 4, bytes := 4 }),
  (122, { agg := true, zero := [.bool false, .bool false], fields := [(0, 1, false), (1, 1, false)], elem := 4, len := 2, bytes := 2 }),
  (123, { agg := true, zero := [.bool false, .bool false, .bool false, .bool false, .bool false, .bool false, .bool false, .bool false], fields := [(0, 2, true), (2, 2, true), (4, 2, true), (6, 2, true)], elem := 122, len := 4, bytes := 8 }),
  (131, { agg := true, zero := [.nilp, .nilp, .nilp, .str ⟨#[]⟩], fields := [(0, 1, false), (1, 1, false), (2, 1, false), (3, 1, false)], bytes := 40 }),
  (132, { agg := true, zero := [.nilp, .nilp, .nilp, .str ⟨#[]⟩], fields := [(0, 1, false), (1, 1, false), (2, 1, false), (3, 1, false)], bytes := 40 }),
  (137, { agg := false, zero := [.int .u32 0], kd := some (.int .u32), bytes := 4 }),
  (138, { agg := false, zero := [.int .u8 0], kd := some (.int .u8), bytes := 1 }),
  (139, { agg := false, zero := [.int .u8 0], kd := some (.int .u8), bytes := 1 }),
  (141, { agg := false, zero := [.nilp], bytes := 8 }),
  (142, { agg := false, zero := [.int .i32 0], kd := some (.int .i32), bytes := 4 }),
  (143, { agg := false, zero := [.int .i32 0], kd := some (.int .i32), bytes := 4 })]
end Go.AM
