/- What the law's row leans on, part 6: an abstract machine over loaded code, functions of the program and their specs. Conditions: none. -/
import Derived.Below
import Derived.Deep.Draws
import Derived.Laws.MakeOwn
import Derived.OrdersHeld
import Derived.KernelRfl
import Derived.Laws.Small
import Derived.Laws.Cover3
import Derived.Laws.RangeAny
import Derived.Laws.Strings
import Derived.Great.BuildSlice
import Derived.MapKept
import Derived.Deep.LoopGhost
import Derived.OrdersIn
import Derived.TacticsIn
import Derived.RangeFuncNested
import Derived.Lib.SlicesS
import Derived.Test.YtlfelhdcokadbaaProg
import Derived.Deep.Slices
import Derived.ChangeArms
import Derived.Test.YtlfelhdcokadbaaM5
set_option linter.all false
namespace Go.AM
open Go.Proofs
-- f12 "busbar/busbarref20.Scan" ['24', '25', '27'] -> ['27', '25', '3']
def A12 : Ann := [(0, [1, 3, 6, 11, 12, 13, 14, 15], [6, 12, 13], [6, 7, 8])]
def E12 : Env := [(10, sp10s), (17, sp17), (28, sp28), (29, sp29)]
def I12 (p0 : (k23 : K).ty) (p1 : ((.slice 4 .bool) : K).ty) (p2 : (k26 : K).ty) : List V1 := [nfK k23 p0, nfK (.slice 4 .bool) p1, nfK k26 p2]
noncomputable def L12_0 : Code := Code.a (Code.a (Code.b (Code.a (Code.b (Code.b (Code.b (Code.b (Code.b (Code.b (Code.b (Code.b (Func.code Try.f12))))))))))))
def S12_0 (l1 : List (K.ty K.bool)) (l11 : List (K.ty (K.int IntKind.i64))) (s14 : ByteArray) (x15 : Int) (xh0_0 : Int) (xh0_1 : Int) (xh0_2 : Int) (lh0_3 : List (K.ty k45)) (lh2_0 : List (K.ty K.bool)) (lh2_1 : List (K.ty K.bool)) (lh2_2 : List (K.ty K.bool)) (w3 : List (K.ty ((4 : TypeId), K.bool).snd)) : St := sp (112 : Nat) [((1 : Nat), V.v (V1.one (Lf.sl (4 : TypeId) K.bool l1))), ((3 : Nat), V.v (V1.one (Lf.ptr (nat_lit 0) (nat_lit 0)))), ((6 : Nat), V.v (V1.one (Lf.ptr (nat_lit 1) (nat_lit 0)))), ((11 : Nat), V.v (V1.one (Lf.sl (3 : TypeId) (K.int IntKind.i64) l11))), ((12 : Nat), V.v (V1.one (Lf.ptr (nat_lit 2) (nat_lit 0)))), ((13 : Nat), V.v (V1.one (Lf.own (nat_lit 3)))), ((14 : Nat), V.v (V1.one (Lf.str s14))), ((15 : Nat), V.v (V1.one (Lf.int IntKind.i64 x15)))] [Ob.box (24 : Nat) [Lf.int IntKind.i64 xh0_0, Lf.int IntKind.i64 xh0_1, Lf.int IntKind.i64 xh0_2, Lf.sl (46 : TypeId) k45 lh0_3], Ob.box (27 : Nat) [Lf.nils, Lf.nils, Lf.nils], Ob.box (27 : Nat) [Lf.sl (4 : TypeId) K.bool lh2_0, Lf.sl (4 : TypeId) K.bool lh2_1, Lf.sl (4 : TypeId) K.bool lh2_2], Ob.row (4 : TypeId) K.bool w3]
def X12_0_0 (lh1_0 : List (K.ty K.bool)) (lh1_1 : List (K.ty K.bool)) (lh1_2 : List (K.ty K.bool)) (w2 : List (K.ty K.bool)) : St := sp (112 : Nat) [((6 : Nat), V.v (V1.one (Lf.ptr (nat_lit 0) (nat_lit 0)))), ((12 : Nat), V.v (V1.one (Lf.ptr (nat_lit 1) (nat_lit 0)))), ((13 : Nat), V.v (V1.one (Lf.own (nat_lit 2))))] [Ob.box (27 : Nat) [Lf.nils, Lf.nils, Lf.nils], Ob.box (27 : Nat) [Lf.sl (4 : TypeId) K.bool lh1_0, Lf.sl (4 : TypeId) K.bool lh1_1, Lf.sl (4 : TypeId) K.bool lh1_2], Ob.row (4 : TypeId) K.bool w2]
def t12_0 (again : List (K.ty K.bool) → List (K.ty (K.int IntKind.i64)) → ByteArray → Int → Int → Int → Int → List (K.ty k45) → List (K.ty K.bool) → List (K.ty K.bool) → List (K.ty K.bool) → List (K.ty ((4 : TypeId), K.bool).snd) → Prop) (R0 : List (K.ty K.bool) → List (K.ty K.bool) → List (K.ty K.bool) → List (K.ty K.bool) → Prop) (l1 : List (K.ty K.bool)) (l11 : List (K.ty (K.int IntKind.i64))) (s14 : ByteArray) (x15 : Int) (xh0_0 : Int) (xh0_1 : Int) (xh0_2 : Int) (lh0_3 : List (K.ty k45)) (lh2_0 : List (K.ty K.bool)) (lh2_1 : List (K.ty K.bool)) (lh2_2 : List (K.ty K.bool)) (w3 : List (K.ty ((4 : TypeId), K.bool).snd)) : Prop :=
  brP (decide (x15 < (↑(List.length lh0_3) : Int))) (bound x15 (List.length lh0_3) ∧ brP (ByteArray.toList s14 != ByteArray.toList (ByteArray.mk #[])) (brP (ByteArray.toList (getE k45 lh0_3 x15).fst != ByteArray.toList s14) (again l1 l11 s14 (IntKind.wrap IntKind.i64 (x15 + (1 : Int))) xh0_0 xh0_1 xh0_2 lh0_3 lh2_0 lh2_1 lh2_2 w3) (bound x15 (List.length w3) ∧ bound x15 (List.length l11) ∧ ((small (lh2_0, lh2_1, lh2_2) ∧ List.length (Rung.contacts (getE k45 lh0_3 x15)) ≤ (1000000 : Nat) ∧ List.length (Rung.coils (getE k45 lh0_3 x15)) ≤ (1000000 : Nat)) ∧ brP (scanR (getE k45 lh0_3 x15) l1 (lh2_0, lh2_1, lh2_2) (getE (K.int IntKind.i64) l11 x15)).snd.fst (again l1 l11 (getE k45 lh0_3 x15).snd.snd.snd (IntKind.wrap IntKind.i64 (x15 + (1 : Int))) xh0_0 xh0_1 xh0_2 lh0_3 (scanR (getE k45 lh0_3 x15) l1 (lh2_0, lh2_1, lh2_2) (getE (K.int IntKind.i64) l11 x15)).fst.fst (scanR (getE k45 lh0_3 x15) l1 (lh2_0, lh2_1, lh2_2) (getE (K.int IntKind.i64) l11 x15)).fst.snd.fst (scanR (getE k45 lh0_3 x15) l1 (lh2_0, lh2_1, lh2_2) (getE (K.int IntKind.i64) l11 x15)).fst.snd.snd (List.set w3 (Int.toNat x15) true)) (again l1 l11 (ByteArray.mk #[]) (IntKind.wrap IntKind.i64 (x15 + (1 : Int))) xh0_0 xh0_1 xh0_2 lh0_3 (scanR (getE k45 lh0_3 x15) l1 (lh2_0, lh2_1, lh2_2) (getE (K.int IntKind.i64) l11 x15)).fst.fst (scanR (getE k45 lh0_3 x15) l1 (lh2_0, lh2_1, lh2_2) (getE (K.int IntKind.i64) l11 x15)).fst.snd.fst (scanR (getE k45 lh0_3 x15) l1 (lh2_0, lh2_1, lh2_2) (getE (K.int IntKind.i64) l11 x15)).fst.snd.snd (List.set w3 (Int.toNat x15) true))) ∧ (small (lh2_0, lh2_1, lh2_2) ∧ List.length (Rung.contacts (getE k45 lh0_3 x15)) ≤ (1000000 : Nat) ∧ List.length (Rung.coils (getE k45 lh0_3 x15)) ≤ (1000000 : Nat)) ∧ brP (scanR (getE k45 lh0_3 x15) l1 (lh2_0, lh2_1, lh2_2) (getE (K.int IntKind.i64) l11 x15)).snd.fst (again l1 l11 (getE k45 lh0_3 x15).snd.snd.snd (IntKind.wrap IntKind.i64 (x15 + (1 : Int))) xh0_0 xh0_1 xh0_2 lh0_3 (scanR (getE k45 lh0_3 x15) l1 (lh2_0, lh2_1, lh2_2) (getE (K.int IntKind.i64) l11 x15)).fst.fst (scanR (getE k45 lh0_3 x15) l1 (lh2_0, lh2_1, lh2_2) (getE (K.int IntKind.i64) l11 x15)).fst.snd.fst (scanR (getE k45 lh0_3 x15) l1 (lh2_0, lh2_1, lh2_2) (getE (K.int IntKind.i64) l11 x15)).fst.snd.snd (List.set w3 (Int.toNat x15) true)) (again l1 l11 (ByteArray.mk #[]) (IntKind.wrap IntKind.i64 (x15 + (1 : Int))) xh0_0 xh0_1 xh0_2 lh0_3 (scanR (getE k45 lh0_3 x15) l1 (lh2_0, lh2_1, lh2_2) (getE (K.int IntKind.i64) l11 x15)).fst.fst (scanR (getE k45 lh0_3 x15) l1 (lh2_0, lh2_1, lh2_2) (getE (K.int IntKind.i64) l11 x15)).fst.snd.fst (scanR (getE k45 lh0_3 x15) l1 (lh2_0, lh2_1, lh2_2) (getE (K.int IntKind.i64) l11 x15)).fst.snd.snd (List.set w3 (Int.toNat x15) true)))) (bound x15 (List.length w3) ∧ bound x15 (List.length l11) ∧ ((small (lh2_0, lh2_1, lh2_2) ∧ List.length (Rung.contacts (getE k45 lh0_3 x15)) ≤ (1000000 : Nat) ∧ List.length (Rung.coils (getE k45 lh0_3 x15)) ≤ (1000000 : Nat)) ∧ brP (scanR (getE k45 lh0_3 x15) l1 (lh2_0, lh2_1, lh2_2) (getE (K.int IntKind.i64) l11 x15)).snd.fst (again l1 l11 (getE k45 lh0_3 x15).snd.snd.snd (IntKind.wrap IntKind.i64 (x15 + (1 : Int))) xh0_0 xh0_1 xh0_2 lh0_3 (scanR (getE k45 lh0_3 x15) l1 (lh2_0, lh2_1, lh2_2) (getE (K.int IntKind.i64) l11 x15)).fst.fst (scanR (getE k45 lh0_3 x15) l1 (lh2_0, lh2_1, lh2_2) (getE (K.int IntKind.i64) l11 x15)).fst.snd.fst (scanR (getE k45 lh0_3 x15) l1 (lh2_0, lh2_1, lh2_2) (getE (K.int IntKind.i64) l11 x15)).fst.snd.snd (List.set w3 (Int.toNat x15) true)) (again l1 l11 (ByteArray.mk #[]) (IntKind.wrap IntKind.i64 (x15 + (1 : Int))) xh0_0 xh0_1 xh0_2 lh0_3 (scanR (getE k45 lh0_3 x15) l1 (lh2_0, lh2_1, lh2_2) (getE (K.int IntKind.i64) l11 x15)).fst.fst (scanR (getE k45 lh0_3 x15) l1 (lh2_0, lh2_1, lh2_2) (getE (K.int IntKind.i64) l11 x15)).fst.snd.fst (scanR (getE k45 lh0_3 x15) l1 (lh2_0, lh2_1, lh2_2) (getE (K.int IntKind.i64) l11 x15)).fst.snd.snd (List.set w3 (Int.toNat x15) true))) ∧ (small (lh2_0, lh2_1, lh2_2) ∧ List.length (Rung.contacts (getE k45 lh0_3 x15)) ≤ (1000000 : Nat) ∧ List.length (Rung.coils (getE k45 lh0_3 x15)) ≤ (1000000 : Nat)) ∧ brP (scanR (getE k45 lh0_3 x15) l1 (lh2_0, lh2_1, lh2_2) (getE (K.int IntKind.i64) l11 x15)).snd.fst (again l1 l11 (getE k45 lh0_3 x15).snd.snd.snd (IntKind.wrap IntKind.i64 (x15 + (1 : Int))) xh0_0 xh0_1 xh0_2 lh0_3 (scanR (getE k45 lh0_3 x15) l1 (lh2_0, lh2_1, lh2_2) (getE (K.int IntKind.i64) l11 x15)).fst.fst (scanR (getE k45 lh0_3 x15) l1 (lh2_0, lh2_1, lh2_2) (getE (K.int IntKind.i64) l11 x15)).fst.snd.fst (scanR (getE k45 lh0_3 x15) l1 (lh2_0, lh2_1, lh2_2) (getE (K.int IntKind.i64) l11 x15)).fst.snd.snd (List.set w3 (Int.toNat x15) true)) (again l1 l11 (ByteArray.mk #[]) (IntKind.wrap IntKind.i64 (x15 + (1 : Int))) xh0_0 xh0_1 xh0_2 lh0_3 (scanR (getE k45 lh0_3 x15) l1 (lh2_0, lh2_1, lh2_2) (getE (K.int IntKind.i64) l11 x15)).fst.fst (scanR (getE k45 lh0_3 x15) l1 (lh2_0, lh2_1, lh2_2) (getE (K.int IntKind.i64) l11 x15)).fst.snd.fst (scanR (getE k45 lh0_3 x15) l1 (lh2_0, lh2_1, lh2_2) (getE (K.int IntKind.i64) l11 x15)).fst.snd.snd (List.set w3 (Int.toNat x15) true)))) (R0 lh2_0 lh2_1 lh2_2 w3)
theorem t12_0_mono {again : List (K.ty K.bool) → List (K.ty (K.int IntKind.i64)) → ByteArray → Int → Int → Int → Int → List (K.ty k45) → List (K.ty K.bool) → List (K.ty K.bool) → List (K.ty K.bool) → List (K.ty ((4 : TypeId), K.bool).snd) → Prop} {R0 : List (K.ty K.bool) → List (K.ty K.bool) → List (K.ty K.bool) → List (K.ty K.bool) → Prop} {again' : List (K.ty K.bool) → List (K.ty (K.int IntKind.i64)) → ByteArray → Int → Int → Int → Int → List (K.ty k45) → List (K.ty K.bool) → List (K.ty K.bool) → List (K.ty K.bool) → List (K.ty ((4 : TypeId), K.bool).snd) → Prop} {R0' : List (K.ty K.bool) → List (K.ty K.bool) → List (K.ty K.bool) → List (K.ty K.bool) → Prop} (ha : ∀ l1 l11 s14 x15 xh0_0 xh0_1 xh0_2 lh0_3 lh2_0 lh2_1 lh2_2 w3, again l1 l11 s14 x15 xh0_0 xh0_1 xh0_2 lh0_3 lh2_0 lh2_1 lh2_2 w3 → again' l1 l11 s14 x15 xh0_0 xh0_1 xh0_2 lh0_3 lh2_0 lh2_1 lh2_2 w3) (hr0 : ∀ lh1_0 lh1_1 lh1_2 w2, R0 lh1_0 lh1_1 lh1_2 w2 → R0' lh1_0 lh1_1 lh1_2 w2) (l1 : List (K.ty K.bool)) (l11 : List (K.ty (K.int IntKind.i64))) (s14 : ByteArray) (x15 : Int) (xh0_0 : Int) (xh0_1 : Int) (xh0_2 : Int) (lh0_3 : List (K.ty k45)) (lh2_0 : List (K.ty K.bool)) (lh2_1 : List (K.ty K.bool)) (lh2_2 : List (K.ty K.bool)) (w3 : List (K.ty ((4 : TypeId), K.bool).snd)) :
    t12_0 again R0 l1 l11 s14 x15 xh0_0 xh0_1 xh0_2 lh0_3 lh2_0 lh2_1 lh2_2 w3 → t12_0 again' R0' l1 l11 s14 x15 xh0_0 xh0_1 xh0_2 lh0_3 lh2_0 lh2_1 lh2_2 w3 :=
  brM (andM (id) (brM (brM (ha _ _ _ _ _ _ _ _ _ _ _ _) (andM (id) (andM (id) (andM (andM (andM (id) (andM (id) (id))) (brM (ha _ _ _ _ _ _ _ _ _ _ _ _) (ha _ _ _ _ _ _ _ _ _ _ _ _))) (andM (andM (id) (andM (id) (id))) (brM (ha _ _ _ _ _ _ _ _ _ _ _ _) (ha _ _ _ _ _ _ _ _ _ _ _ _))))))) (andM (id) (andM (id) (andM (andM (andM (id) (andM (id) (id))) (brM (ha _ _ _ _ _ _ _ _ _ _ _ _) (ha _ _ _ _ _ _ _ _ _ _ _ _))) (andM (andM (id) (andM (id) (id))) (brM (ha _ _ _ _ _ _ _ _ _ _ _ _) (ha _ _ _ _ _ _ _ _ _ _ _ _)))))))) (hr0 _ _ _ _)
theorem t12_0_eq (n : Nat) (Q : Ex → St → Prop) (l1 : List (K.ty K.bool)) (l11 : List (K.ty (K.int IntKind.i64))) (s14 : ByteArray) (x15 : Int) (xh0_0 : Int) (xh0_1 : Int) (xh0_2 : Int) (lh0_3 : List (K.ty k45)) (lh2_0 : List (K.ty K.bool)) (lh2_1 : List (K.ty K.bool)) (lh2_2 : List (K.ty K.bool)) (w3 : List (K.ty ((4 : TypeId), K.bool).snd)) :
    t12_0 (fun l1 l11 s14 x15 xh0_0 xh0_1 xh0_2 lh0_3 lh2_0 lh2_1 lh2_2 w3 => loopP (awp tt E12 A12 L12_0 0) ([(1 : Nat), (3 : Nat), (6 : Nat), (11 : Nat), (12 : Nat), (13 : Nat), (14 : Nat), (15 : Nat)], [(6 : Nat), (12 : Nat), (13 : Nat)], [(6 : Nat), (7 : Nat), (8 : Nat)]) n (S12_0 l1 l11 s14 x15 xh0_0 xh0_1 xh0_2 lh0_3 lh2_0 lh2_1 lh2_2 w3) Q) (fun lh1_0 lh1_1 lh1_2 w2 => Q (Ex.exit (nat_lit 0)) (X12_0_0 lh1_0 lh1_1 lh1_2 w2)) l1 l11 s14 x15 xh0_0 xh0_1 xh0_2 lh0_3 lh2_0 lh2_1 lh2_2 w3 = (loopP (awp tt E12 A12 L12_0 0) ([(1 : Nat), (3 : Nat), (6 : Nat), (11 : Nat), (12 : Nat), (13 : Nat), (14 : Nat), (15 : Nat)], [(6 : Nat), (12 : Nat), (13 : Nat)], [(6 : Nat), (7 : Nat), (8 : Nat)]) (n + 1) (S12_0 l1 l11 s14 x15 xh0_0 xh0_1 xh0_2 lh0_3 lh2_0 lh2_1 lh2_2 w3) Q) := by kernel_rfl
def G12_0 (R0 : List (K.ty K.bool) → List (K.ty K.bool) → List (K.ty K.bool) → List (K.ty K.bool) → Prop) : Nat → List (K.ty K.bool) → List (K.ty (K.int IntKind.i64)) → ByteArray → Int → Int → Int → Int → List (K.ty k45) → List (K.ty K.bool) → List (K.ty K.bool) → List (K.ty K.bool) → List (K.ty ((4 : TypeId), K.bool).snd) → Prop
  | 0, _, _, _, _, _, _, _, _, _, _, _, _ => False
  | n + 1, l1, l11, s14, x15, xh0_0, xh0_1, xh0_2, lh0_3, lh2_0, lh2_1, lh2_2, w3 => t12_0 (G12_0 R0 n) R0 l1 l11 s14 x15 xh0_0 xh0_1 xh0_2 lh0_3 lh2_0 lh2_1 lh2_2 w3
theorem T12_0 {R0 : List (K.ty K.bool) → List (K.ty K.bool) → List (K.ty K.bool) → List (K.ty K.bool) → Prop} (Q : Ex → St → Prop) (hr0 : ∀ lh1_0 lh1_1 lh1_2 w2, R0 lh1_0 lh1_1 lh1_2 w2 → Of (Q (Ex.exit (nat_lit 0)) (X12_0_0 lh1_0 lh1_1 lh1_2 w2))) : ∀ (n : Nat) (l1 : List (K.ty K.bool)) (l11 : List (K.ty (K.int IntKind.i64))) (s14 : ByteArray) (x15 : Int) (xh0_0 : Int) (xh0_1 : Int) (xh0_2 : Int) (lh0_3 : List (K.ty k45)) (lh2_0 : List (K.ty K.bool)) (lh2_1 : List (K.ty K.bool)) (lh2_2 : List (K.ty K.bool)) (w3 : List (K.ty ((4 : TypeId), K.bool).snd)), G12_0 R0 n l1 l11 s14 x15 xh0_0 xh0_1 xh0_2 lh0_3 lh2_0 lh2_1 lh2_2 w3 → Of (loopP (awp tt E12 A12 L12_0 0) ([(1 : Nat), (3 : Nat), (6 : Nat), (11 : Nat), (12 : Nat), (13 : Nat), (14 : Nat), (15 : Nat)], [(6 : Nat), (12 : Nat), (13 : Nat)], [(6 : Nat), (7 : Nat), (8 : Nat)]) n (S12_0 l1 l11 s14 x15 xh0_0 xh0_1 xh0_2 lh0_3 lh2_0 lh2_1 lh2_2 w3) Q) := by
  intro n
  induction n with
  | zero => intro l1 l11 s14 x15 xh0_0 xh0_1 xh0_2 lh0_3 lh2_0 lh2_1 lh2_2 w3 h; exact h.elim
  | succ n ih =>
    intro l1 l11 s14 x15 xh0_0 xh0_1 xh0_2 lh0_3 lh2_0 lh2_1 lh2_2 w3 h
    exact kcO (t12_0_eq n Q l1 l11 s14 x15 xh0_0 xh0_1 xh0_2 lh0_3 lh2_0 lh2_1 lh2_2 w3) (t12_0_mono (fun _ _ _ _ _ _ _ _ _ _ _ _ h => (ih _ _ _ _ _ _ _ _ _ _ _ _ h).out) (fun _ _ _ _ h => (hr0 _ _ _ _ h).out) l1 l11 s14 x15 xh0_0 xh0_1 xh0_2 lh0_3 lh2_0 lh2_1 lh2_2 w3 h)
def t12 (Q : List V1 → List Ob → Prop) (lp0 : K.ty k23 → K.ty (K.slice (4 : TypeId) K.bool) → K.ty k26 → Prop) (p0 : K.ty k23) (p1 : K.ty (K.slice (4 : TypeId) K.bool)) (p2 : K.ty k26) : Prop :=
  brP ((checkL p0).snd != (0 : Int)) (Q [V1.agg [Lf.nils, Lf.nils, Lf.nils], V1.one (Lf.own (0 : Nat)), V1.one (Lf.int IntKind.i64 (checkL p0).snd)] [Ob.row (4 : TypeId) K.bool []]) ((List.length (Lad.rungs p0) ≤ (1000 : Nat) ∧ ∀ (r : Rung), r ∈ Lad.rungs p0 → List.length (Rung.contacts r) ≤ (1000000 : Nat)) ∧ brP ((↑(List.length p1) : Int) != p0.fst) (Q [V1.agg [Lf.nils, Lf.nils, Lf.nils], V1.one (Lf.own (0 : Nat)), V1.one (Lf.int IntKind.i64 (2 : Int))] [Ob.row (4 : TypeId) K.bool []]) (brP ((↑(List.length p2.fst) : Int) != p0.snd.fst) (Q [V1.agg [Lf.nils, Lf.nils, Lf.nils], V1.one (Lf.own (0 : Nat)), V1.one (Lf.int IntKind.i64 (2 : Int))] [Ob.row (4 : TypeId) K.bool []]) (brP ((↑(List.length p2.snd.fst) : Int) != p0.snd.snd.fst) (Q [V1.agg [Lf.nils, Lf.nils, Lf.nils], V1.one (Lf.own (0 : Nat)), V1.one (Lf.int IntKind.i64 (2 : Int))] [Ob.row (4 : TypeId) K.bool []]) (bound (↑(List.length p0.snd.snd.snd) : Int) (List.length (basesFrom (0 : Int) (Lad.rungs p0))) ∧ brP ((↑(List.length p2.snd.snd) : Int) != getE (K.int IntKind.i64) (basesFrom (0 : Int) (Lad.rungs p0)) (↑(List.length p0.snd.snd.snd) : Int)) (Q [V1.agg [Lf.nils, Lf.nils, Lf.nils], V1.one (Lf.own (0 : Nat)), V1.one (Lf.int IntKind.i64 (2 : Int))] [Ob.row (4 : TypeId) K.bool []]) (small p2 ∧ ((0 : Int) ≤ (↑(List.length p0.snd.snd.snd) : Int) ∧ (↑(List.length p0.snd.snd.snd) : Int) ≤ (↑(List.length p0.snd.snd.snd) : Int) ∧ (↑(List.length p0.snd.snd.snd) : Int) ≤ (17592186044416 : Int)) ∧ room tt (4 : TypeId) (Int.toNat (↑(List.length p0.snd.snd.snd) : Int)) ∧ lp0 p0 p1 p2)))))
theorem t12_mono {Q : List V1 → List Ob → Prop} {Q' : List V1 → List Ob → Prop} {lp0 : K.ty k23 → K.ty (K.slice (4 : TypeId) K.bool) → K.ty k26 → Prop} {lp0' : K.ty k23 → K.ty (K.slice (4 : TypeId) K.bool) → K.ty k26 → Prop} (hq : ∀ r h, Q r h → Q' r h) (hlp0 : ∀ p0 p1 p2, lp0 p0 p1 p2 → lp0' p0 p1 p2) (p0 : K.ty k23) (p1 : K.ty (K.slice (4 : TypeId) K.bool)) (p2 : K.ty k26) :
    t12 Q lp0 p0 p1 p2 → t12 Q' lp0' p0 p1 p2 :=
  brM (hq _ _) (andM (andM (id) (id)) (brM (hq _ _) (brM (hq _ _) (brM (hq _ _) (andM (id) (brM (hq _ _) (andM (id) (andM (andM (id) (andM (id) (id))) (andM (id) (hlp0 _ _ _))))))))))
theorem t12_eq (Q : List V1 → List Ob → Prop) (p0 : K.ty k23) (p1 : K.ty (K.slice (4 : TypeId) K.bool)) (p2 : K.ty k26) :
    t12 Q (fun p0 p1 p2 => ∃ m, loopP (awp tt E12 A12 L12_0 0) ([(1 : Nat), (3 : Nat), (6 : Nat), (11 : Nat), (12 : Nat), (13 : Nat), (14 : Nat), (15 : Nat)], [(6 : Nat), (12 : Nat), (13 : Nat)], [(6 : Nat), (7 : Nat), (8 : Nat)]) m (S12_0 (p1) (basesFrom (0 : Int) (Lad.rungs p0)) (ByteArray.mk #[]) ((0 : Int)) (p0.fst) (p0.snd.fst) (p0.snd.snd.fst) (p0.snd.snd.snd) (p2.fst) (p2.snd.fst) (p2.snd.snd) (List.replicate (Int.toNat (↑(List.length p0.snd.snd.snd) : Int)) (K.dflt K.bool))) (blkC (0 : Nat) (seqC (awp tt E12 A12 (Code.b (Code.b (Code.b (Code.b (Code.b (Code.b (Code.b (Code.b (Code.b (Func.code Try.f12)))))))))) (0 : Nat)) (topC tt Try.f12 0 Q)))) p0 p1 p2 = (afun tt E12 A12 Try.f12 (I12 p0 p1 p2) [] Q) := by kernel_rfl
def t12c0x0 (Q : List V1 → List Ob → Prop) (p0 : K.ty k23) (p1 : K.ty (K.slice (4 : TypeId) K.bool)) (p2 : K.ty k26) (lh1_0e3 : List (K.ty K.bool)) (lh1_1e3 : List (K.ty K.bool)) (lh1_2e3 : List (K.ty K.bool)) (w2e3 : List (K.ty K.bool)) : Prop :=
  Q [V1.agg [Lf.sl (4 : TypeId) K.bool lh1_0e3, Lf.sl (4 : TypeId) K.bool lh1_1e3, Lf.sl (4 : TypeId) K.bool lh1_2e3], V1.one (Lf.own (0 : Nat)), V1.one (Lf.int IntKind.i64 (0 : Int))] [Ob.row (4 : TypeId) K.bool w2e3]
theorem t12c0x0_mono {Q : List V1 → List Ob → Prop} {Q' : List V1 → List Ob → Prop} (hq : ∀ r h, Q r h → Q' r h) (p0 : K.ty k23) (p1 : K.ty (K.slice (4 : TypeId) K.bool)) (p2 : K.ty k26) (lh1_0e3 : List (K.ty K.bool)) (lh1_1e3 : List (K.ty K.bool)) (lh1_2e3 : List (K.ty K.bool)) (w2e3 : List (K.ty K.bool)) :
    t12c0x0 Q p0 p1 p2 lh1_0e3 lh1_1e3 lh1_2e3 w2e3 → t12c0x0 Q' p0 p1 p2 lh1_0e3 lh1_1e3 lh1_2e3 w2e3 :=
  hq _ _
theorem t12c0x0_eq (Q : List V1 → List Ob → Prop) (p0 : K.ty k23) (p1 : K.ty (K.slice (4 : TypeId) K.bool)) (p2 : K.ty k26) (lh1_0e3 : List (K.ty K.bool)) (lh1_1e3 : List (K.ty K.bool)) (lh1_2e3 : List (K.ty K.bool)) (w2e3 : List (K.ty K.bool)) :
    t12c0x0 Q p0 p1 p2 lh1_0e3 lh1_1e3 lh1_2e3 w2e3 = ((blkC (0 : Nat) (seqC (awp tt E12 A12 (Code.b (Code.b (Code.b (Code.b (Code.b (Code.b (Code.b (Code.b (Code.b (Func.code Try.f12)))))))))) (0 : Nat)) (topC tt Try.f12 0 Q))) (Ex.exit (nat_lit 0)) (X12_0_0 lh1_0e3 lh1_1e3 lh1_2e3 w2e3)) := by kernel_rfl
def H12 (Q : List V1 → List Ob → Prop) (p0 : K.ty k23) (p1 : K.ty (K.slice (4 : TypeId) K.bool)) (p2 : K.ty k26) : Prop := t12 Q (fun p0 p1 p2 => ∃ m, G12_0 (fun lh1_0e3 lh1_1e3 lh1_2e3 w2e3 => t12c0x0 Q p0 p1 p2 lh1_0e3 lh1_1e3 lh1_2e3 w2e3) m (p1) (basesFrom (0 : Int) (Lad.rungs p0)) (ByteArray.mk #[]) ((0 : Int)) (p0.fst) (p0.snd.fst) (p0.snd.snd.fst) (p0.snd.snd.snd) (p2.fst) (p2.snd.fst) (p2.snd.snd) (List.replicate (Int.toNat (↑(List.length p0.snd.snd.snd) : Int)) (K.dflt K.bool))) p0 p1 p2
theorem ok12 (Q : List V1 → List Ob → Prop) (p0 : K.ty k23) (p1 : K.ty (K.slice (4 : TypeId) K.bool)) (p2 : K.ty k26) (h : H12 Q p0 p1 p2) : Of (afun tt E12 A12 Try.f12 (I12 p0 p1 p2) [] Q) :=
  kcO (t12_eq Q p0 p1 p2) (t12_mono (fun _ _ h => h) (fun p0 p1 p2 ⟨m, h⟩ => ⟨m, (T12_0 _ (fun lh1_0e3 lh1_1e3 lh1_2e3 w2e3 h => kcO (t12c0x0_eq _ _ _ _ _ _ _ _) (t12c0x0_mono (fun _ _ h => h) _ _ _ _ _ _ _ h)) m _ _ _ _ _ _ _ _ _ _ _ _ h).out⟩) p0 p1 p2 h)
theorem env12 : EnvOk Try.prog E12 := .cons spec10s (by kernel_rfl) <| .cons spec17 (by kernel_rfl) <| .cons spec28 (by kernel_rfl) <| .cons spec29 (by kernel_rfl) <| .nil
theorem loop12 (l : Lad) (hc : (checkL l).2 = 0) (inp : List Bool) (hi : (inp.length : Int) = l.1) (R0 : List Bool → List Bool → List Bool → List Bool → Prop) :
    ∀ n (i i' k : Nat) (sk : ByteArray) (s : Sta) (did : List Bool), l.rungs.length - i < n → i ≤ i' → i' ≤ l.rungs.length → l.rungs.length - i' ≤ k → did.length = l.rungs.length → small s → sized l s →
      (sk = str0 ∧ i' = i ∨ sk ≠ str0 ∧ i' < l.rungs.length ∧ Rung.label (getE k45 l.rungs i') = sk ∧ ∀ j, i ≤ j → j < i' → Rung.label (getE k45 l.rungs j) ≠ sk) →
      R0 (scanGo l inp k i' s did).1.1 (scanGo l inp k i' s did).1.2.1 (scanGo l inp k i' s did).1.2.2 (scanGo l inp k i' s did).2.1 →
      G12_0 R0 n inp (basesFrom 0 l.rungs) sk i l.1 l.2.1 l.2.2.1 l.rungs s.1 s.2.1 s.2.2 did := by
  intro n
  induction n with
  | zero => intro i i' k sk s did h; omega
  | succ n ih =>
    intro i i' k sk s did hn hii hil hk hd hs hz hsk h
    have hv := valid_of hc
    refine brP_intro (fun c => ?_) (fun c => ?_)
    · have c : i < l.rungs.length := by have := of_decide_eq_true c; omega
      have hl := hv.len
      have hw : IntKind.i64.wrap ((i : Int) + 1) = ((i + 1 : Nat) : Int) := by rw [wrap_in (by omega) (by omega)]; omega
      have hb : bound (i : Int) l.rungs.length := ⟨by omega, by omega⟩
      rw [hw, Int.toNat_natCast]
      -- the rung is executed
      have exec : i' = i → bound (i : Int) did.length ∧ bound (i : Int) (basesFrom 0 l.rungs).length ∧
          ((small s ∧ (Rung.contacts (getE k45 l.rungs i)).length ≤ 1000000 ∧ (Rung.coils (getE k45 l.rungs i)).length ≤ 1000000) ∧
            brP (scanR (getE k45 l.rungs i) inp s (getE ki (basesFrom 0 l.rungs) i)).2.1
              (G12_0 R0 n inp (basesFrom 0 l.rungs) (getE k45 l.rungs i).2.2.2 ((i + 1 : Nat) : Int) l.1 l.2.1 l.2.2.1 l.rungs (scanR (getE k45 l.rungs i) inp s (getE ki (basesFrom 0 l.rungs) i)).1.1 (scanR (getE k45 l.rungs i) inp s (getE ki (basesFrom 0 l.rungs) i)).1.2.1 (scanR (getE k45 l.rungs i) inp s (getE ki (basesFrom 0 l.rungs) i)).1.2.2 (did.set i true))
              (G12_0 R0 n inp (basesFrom 0 l.rungs) (ByteArray.mk #[]) ((i + 1 : Nat) : Int) l.1 l.2.1 l.2.2.1 l.rungs (scanR (getE k45 l.rungs i) inp s (getE ki (basesFrom 0 l.rungs) i)).1.1 (scanR (getE k45 l.rungs i) inp s (getE ki (basesFrom 0 l.rungs) i)).1.2.1 (scanR (getE k45 l.rungs i) inp s (getE ki (basesFrom 0 l.rungs) i)).1.2.2 (did.set i true))) := by
        rintro rfl
        obtain ⟨v1, v2⟩ := hv.rung i' c
        obtain ⟨e1, e2⟩ := scanR_ok hc hi hz c
        have hsm := scanR_small hs (getE k45 l.rungs i') inp (getE ki (basesFrom 0 l.rungs) i')
        refine ⟨⟨by omega, by omega⟩, ⟨by omega, by rw [basesFrom_len]; omega⟩, ⟨hs, by omega, by omega⟩, ?_⟩
        cases k with
        | zero => omega
        | succ k =>
          simp only [scanGo] at h
          rw [decide_eq_false (show ¬ l.rungs.length ≤ i' by omega)] at h
          have e1' : ((scanR (getE k45 l.rungs i') inp s (getE ki (basesFrom 0 l.rungs) i')).2.2 != 0) = false := by rw [e1]; rfl
          rw [e1'] at h
          simp only [cond_false] at h
          revert h e2 hsm
          clear e1 e1'
          generalize scanR (getE k45 l.rungs i') inp s (getE ki (basesFrom 0 l.rungs) i') = res
          intro e2 hsm h
          have hd' : (did.set i' true).length = l.rungs.length := by rw [List.length_set]; exact hd
          refine brP_intro (fun f => ?_) (fun f => ?_)
          · rw [f] at h
            by_cases hj : jumpAt l i' = str0
            · have hn1 : nextR l i' true = i' + 1 := by unfold nextR; rw [decide_eq_true hj]; rfl
              rw [hn1] at h
              exact ih (i' + 1) (i' + 1) k _ _ _ (by omega) (by omega) (by omega) (by omega) hd' hsm e2 (.inl ⟨hj, rfl⟩) h
            · obtain ⟨b1, b2⟩ := hv.jump i' c hj
              obtain ⟨m, m1, m2, m3, m4⟩ := behind_hit b1
              have hn1 : nextR l i' true = m := by unfold nextR; rw [decide_eq_false hj, m1]; simp
              rw [hn1] at h
              have hfirst := behind_first m1 m2
              exact ih (i' + 1) m k _ _ _ (by omega) (by omega) (by omega) (by omega) hd' hsm e2 (.inr ⟨hj, m3, m4, fun j h1 h2 => hfirst j (by omega) h2⟩) h
          · rw [f] at h
            have hn1 : nextR l i' false = i' + 1 := by unfold nextR; rfl
            rw [hn1] at h
            exact ih (i' + 1) (i' + 1) k _ _ _ (by omega) (by omega) (by omega) (by omega) hd' hsm e2 (.inl ⟨rfl, rfl⟩) h
      have exec2 : i' = i → bound (i : Int) did.length ∧ bound (i : Int) (basesFrom 0 l.rungs).length ∧ _ ∧ _ := fun e => ⟨(exec e).1, (exec e).2.1, (exec e).2.2, (exec e).2.2⟩
      clear exec
      refine ⟨hb, brP_intro (fun e => brP_intro (fun f => ?_) (fun f => ?_)) (fun e => ?_)⟩
      · rw [bne, strEq] at e f
        rcases hsk with ⟨a1, a2⟩ | ⟨a1, a2, a3, a4⟩
        · subst a1
          rw [decide_eq_true (show (str0 : ByteArray) = ByteArray.mk #[] from rfl)] at e
          cases e
        · have hne : i' ≠ i := by
            rintro rfl
            have a3 : (getE k45 l.rungs i').fst = sk := a3
            rw [decide_eq_true a3] at f
            cases f
          exact ih (i + 1) i' k sk s did (by omega) (by omega) hil hk hd hs hz (.inr ⟨a1, a2, a3, fun j h1 h2 => a4 j (by omega) h2⟩) h
      · rw [bne, strEq] at e f
        rcases hsk with ⟨a1, a2⟩ | ⟨a1, a2, a3, a4⟩
        · exact exec2 a2
        · refine exec2 ?_
          by_cases hne : i' = i
          · exact hne
          · have f : Rung.label (getE k45 l.rungs i) = sk := by
              have f : decide ((getE k45 l.rungs i).fst = sk) = true := by simpa using f
              exact of_decide_eq_true f
            exact absurd f (a4 i (by omega) (by omega))
      · rw [bne, strEq] at e
        rcases hsk with ⟨a1, a2⟩ | ⟨a1, a2, a3, a4⟩
        · exact exec2 a2
        · rw [decide_eq_false a1] at e
          cases e
    · have c : ¬ i < l.rungs.length := by have := of_decide_eq_false c; omega
      obtain rfl : i' = l.rungs.length := by omega
      have e : scanGo l inp k l.rungs.length s did = (s, did, 0) := by
        cases k with
        | zero => rfl
        | succ k => simp only [scanGo]; rw [decide_eq_true (Nat.le_refl _)]; rfl
      rw [e] at h
      exact h
theorem scanGo_fine {l : Lad} (hc : (checkL l).2 = 0) {inp : List Bool} (hi : (inp.length : Int) = l.1) : ∀ (k i : Nat) (s : Sta) (did : List Bool), sized l s → (scanGo l inp k i s did).2.2 = 0
  | 0, _, _, _, _ => rfl
  | k + 1, i, s, did, hz => by
    simp only [scanGo]
    by_cases c : l.rungs.length ≤ i
    · rw [decide_eq_true c]; rfl
    · rw [decide_eq_false c]
      obtain ⟨e1, e2⟩ := scanR_ok (inp := inp) hc hi hz (show i < l.rungs.length by omega)
      have e1' : ((scanR (getE k45 l.rungs i) inp s (getE ki (basesFrom 0 l.rungs) i)).2.2 != 0) = false := by rw [e1]; rfl
      rw [e1']
      exact scanGo_fine hc hi k _ _ _ e2
theorem spec12 : SpecOk Try.prog 12 sp12 := S3.okS tt_ok mixed [k26, kbs, ki] env12 Try.func12 fun (l : Lad) (inp : List Bool) (st : Sta) Q h => ok12 _ l inp st <| by
  obtain ⟨hs, h⟩ := h
  have bad : ∀ e : Int, scanL l inp st = (zeroS, [], e) → Q [nfK k26 zeroS, .one (.sl 4 .bool []), .one (.int .i64 e)] [] := fun e he => by rw [he] at h; exact h
  refine brP_intro (fun c => ?_) (fun c => ?_)
  · exact bad (checkL l).2 (by unfold scanL; rw [c]; rfl)
  · have hc : (checkL l).2 = 0 := by simpa using c
    have hv := valid_of hc
    have hl := hv.len
    have hfit := fits_sized hc st
    have e2 : (decide ((inp.length : Int) = l.1) = false ∨ decide ((st.1.length : Int) = l.2.1) = false ∨ decide ((st.2.1.length : Int) = l.2.2.1) = false ∨ decide ((st.2.2.length : Int) = bAt (basesFrom 0 l.rungs) l.rungs.length) = false) → Q [nfK k26 zeroS, .one (.sl 4 .bool []), .one (.int .i64 2)] [] := fun hh => bad 2 (by
      unfold scanL
      rw [c, hfit]
      rcases hh with hh | hh | hh | hh <;> rw [hh] <;> simp)
    have ne : ∀ x y : Int, (x != y) = !decide (x = y) := fun x y => by
      by_cases h : x = y <;> simp [h]
    refine ⟨hv.wide, brP_intro (fun d => ?_) (fun d => brP_intro (fun e => ?_) (fun e => brP_intro (fun f => ?_) (fun f => ⟨⟨by omega, by rw [basesFrom_len]; show ((Lad.rungs l).length : Int) < ((Lad.rungs l).length + 1 : Nat); omega⟩, brP_intro (fun g => ?_) (fun g => ?_)⟩)))⟩
    · have d : ((inp.length : Int) != l.1) = true := d
      rw [ne] at d
      exact e2 (.inl (by simpa using d))
    · have e : ((st.1.length : Int) != l.2.1) = true := e
      rw [ne] at e
      exact e2 (.inr (.inl (by simpa using e)))
    · have f : ((st.2.1.length : Int) != l.2.2.1) = true := f
      rw [ne] at f
      exact e2 (.inr (.inr (.inl (by simpa using f))))
    · have g : ((st.2.2.length : Int) != bAt (basesFrom 0 l.rungs) l.rungs.length) = true := g
      rw [ne] at g
      exact e2 (.inr (.inr (.inr (by simpa using g))))
    · have d : ((inp.length : Int) != l.1) = false := d
      have e : ((st.1.length : Int) != l.2.1) = false := e
      have f : ((st.2.1.length : Int) != l.2.2.1) = false := f
      have g : ((st.2.2.length : Int) != bAt (basesFrom 0 l.rungs) l.rungs.length) = false := g
      have d : (inp.length : Int) = l.1 := by simpa using d
      have e : (st.1.length : Int) = l.2.1 := by simpa using e
      have f : (st.2.1.length : Int) = l.2.2.1 := by simpa using f
      have g : (st.2.2.length : Int) = bAt (basesFrom 0 l.rungs) l.rungs.length := by simpa using g
      have hz : sized l st := ⟨e, f, g⟩
      have hfin : scanL l inp st = scanGo l inp l.rungs.length 0 st (List.replicate l.rungs.length false) := by
        unfold scanL
        rw [c, hfit, decide_eq_true d, decide_eq_true e, decide_eq_true f, decide_eq_true g]
        rfl
      have h0 := scanGo_fine hc d l.rungs.length 0 st (List.replicate l.rungs.length false) hz
      have h : Q [nfK k26 (scanL l inp st).1, .one (.sl 4 .bool (scanL l inp st).2.1), .one (.int .i64 (scanL l inp st).2.2)] [] := h
      rw [hfin, h0] at h
      refine ⟨hs, ⟨by omega, Int.le_refl _, by show ((Lad.rungs l).length : Int) ≤ _; omega⟩, ?_, ?_⟩
      · rw [Int.toNat_natCast]; exact room4 (show (Lad.rungs l).length ≤ _ by omega)
      · exact ⟨(Lad.rungs l).length + 1, loop12 l hc inp d _ _ 0 0 l.rungs.length str0 st (List.replicate l.rungs.length false) (by omega) (by omega) (by omega) (by omega) (by simp) hs hz (.inl ⟨rfl, rfl⟩) h⟩
end Go.AM
namespace Go.AM
open Go.Proofs
-- f19 "busbar/busbarref20.Run" ['24', '27', '28'] -> ['48', '3', '3']
def A19 : Ann := [(0, [2, 3, 4, 9, 10], [2, 9], [6, 7, 8])]
def E19 : Env := [(12, sp12)]
def I19 (p0 : (k23 : K).ty) (p1 : (k26 : K).ty) (p2 : ((.slice 25 (.slice 4 .bool)) : K).ty) : List V1 := [nfK k23 p0, nfK k26 p1, nfK (.slice 25 (.slice 4 .bool)) p2]
noncomputable def L19_0 : Code := Code.a (Code.a (Code.b (Code.a (Code.b (Code.b (Func.code Try.f19))))))
def S19_0 (l2 : List (K.ty (K.slice (4 : TypeId) K.bool))) (x10 : Int) (xh0_0 : Int) (xh0_1 : Int) (xh0_2 : Int) (lh0_3 : List (K.ty k45)) (lh1_0 : List (K.ty K.bool)) (lh1_1 : List (K.ty K.bool)) (lh1_2 : List (K.ty K.bool)) (w2 : List (K.ty k26)) : St := sp (43 : Nat) [((2 : Nat), V.v (V1.one (Lf.sl (25 : TypeId) (K.slice (4 : TypeId) K.bool) l2))), ((3 : Nat), V.v (V1.one (Lf.ptr (nat_lit 0) (nat_lit 0)))), ((4 : Nat), V.v (V1.one (Lf.ptr (nat_lit 1) (nat_lit 0)))), ((9 : Nat), V.v (V1.one (Lf.own (nat_lit 2)))), ((10 : Nat), V.v (V1.one (Lf.int IntKind.i64 x10)))] [Ob.box (24 : Nat) [Lf.int IntKind.i64 xh0_0, Lf.int IntKind.i64 xh0_1, Lf.int IntKind.i64 xh0_2, Lf.sl (46 : TypeId) k45 lh0_3], Ob.box (27 : Nat) [Lf.sl (4 : TypeId) K.bool lh1_0, Lf.sl (4 : TypeId) K.bool lh1_1, Lf.sl (4 : TypeId) K.bool lh1_2], Ob.row (27 : TypeId) k26 w2]
def X19_0_0 (x7 : Int) (x8 : Int) (w0 : List (K.ty k26)) : St := sp (43 : Nat) [((6 : Nat), V.v (V1.one (Lf.own (nat_lit 0)))), ((7 : Nat), V.v (V1.one (Lf.int IntKind.i64 x7))), ((8 : Nat), V.v (V1.one (Lf.int IntKind.i64 x8)))] [Ob.row (27 : TypeId) k26 w0]
def X19_0_1 (l2 : List (K.ty (K.slice (4 : TypeId) K.bool))) (w0 : List (K.ty k26)) : St := sp (43 : Nat) [((2 : Nat), V.v (V1.one (Lf.sl (25 : TypeId) (K.slice (4 : TypeId) K.bool) l2))), ((9 : Nat), V.v (V1.one (Lf.own (nat_lit 0))))] [Ob.row (27 : TypeId) k26 w0]
def t19_0 (again : List (K.ty (K.slice (4 : TypeId) K.bool)) → Int → Int → Int → Int → List (K.ty k45) → List (K.ty K.bool) → List (K.ty K.bool) → List (K.ty K.bool) → List (K.ty k26) → Prop) (R0 : Int → Int → List (K.ty k26) → Prop) (R1 : List (K.ty (K.slice (4 : TypeId) K.bool)) → List (K.ty k26) → Prop) (l2 : List (K.ty (K.slice (4 : TypeId) K.bool))) (x10 : Int) (xh0_0 : Int) (xh0_1 : Int) (xh0_2 : Int) (lh0_3 : List (K.ty k45)) (lh1_0 : List (K.ty K.bool)) (lh1_1 : List (K.ty K.bool)) (lh1_2 : List (K.ty K.bool)) (w2 : List (K.ty k26)) : Prop :=
  brP (decide (x10 < (↑(List.length l2) : Int))) (bound x10 (List.length l2) ∧ (small (lh1_0, lh1_1, lh1_2) ∧ brP ((scanL (xh0_0, xh0_1, xh0_2, lh0_3) (getE (K.slice (4 : TypeId) K.bool) l2 x10) (lh1_0, lh1_1, lh1_2)).snd.snd != (0 : Int)) (R0 x10 (scanL (xh0_0, xh0_1, xh0_2, lh0_3) (getE (K.slice (4 : TypeId) K.bool) l2 x10) (lh1_0, lh1_1, lh1_2)).snd.snd []) (room tt (27 : TypeId) (List.length w2 + List.length (List.set (List.replicate (1 : Nat) (K.dflt k26)) (0 : Nat) (scanL (xh0_0, xh0_1, xh0_2, lh0_3) (getE (K.slice (4 : TypeId) K.bool) l2 x10) (lh1_0, lh1_1, lh1_2)).fst)) ∧ again l2 (IntKind.wrap IntKind.i64 (x10 + (1 : Int))) xh0_0 xh0_1 xh0_2 lh0_3 (scanL (xh0_0, xh0_1, xh0_2, lh0_3) (getE (K.slice (4 : TypeId) K.bool) l2 x10) (lh1_0, lh1_1, lh1_2)).fst.fst (scanL (xh0_0, xh0_1, xh0_2, lh0_3) (getE (K.slice (4 : TypeId) K.bool) l2 x10) (lh1_0, lh1_1, lh1_2)).fst.snd.fst (scanL (xh0_0, xh0_1, xh0_2, lh0_3) (getE (K.slice (4 : TypeId) K.bool) l2 x10) (lh1_0, lh1_1, lh1_2)).fst.snd.snd (w2 ++ List.set (List.replicate (1 : Nat) (K.dflt k26)) (0 : Nat) (scanL (xh0_0, xh0_1, xh0_2, lh0_3) (getE (K.slice (4 : TypeId) K.bool) l2 x10) (lh1_0, lh1_1, lh1_2)).fst))) ∧ small (lh1_0, lh1_1, lh1_2) ∧ brP ((scanL (xh0_0, xh0_1, xh0_2, lh0_3) (getE (K.slice (4 : TypeId) K.bool) l2 x10) (lh1_0, lh1_1, lh1_2)).snd.snd != (0 : Int)) (R0 x10 (scanL (xh0_0, xh0_1, xh0_2, lh0_3) (getE (K.slice (4 : TypeId) K.bool) l2 x10) (lh1_0, lh1_1, lh1_2)).snd.snd []) (room tt (27 : TypeId) (List.length w2 + List.length (List.set (List.replicate (1 : Nat) (K.dflt k26)) (0 : Nat) (scanL (xh0_0, xh0_1, xh0_2, lh0_3) (getE (K.slice (4 : TypeId) K.bool) l2 x10) (lh1_0, lh1_1, lh1_2)).fst)) ∧ again l2 (IntKind.wrap IntKind.i64 (x10 + (1 : Int))) xh0_0 xh0_1 xh0_2 lh0_3 (scanL (xh0_0, xh0_1, xh0_2, lh0_3) (getE (K.slice (4 : TypeId) K.bool) l2 x10) (lh1_0, lh1_1, lh1_2)).fst.fst (scanL (xh0_0, xh0_1, xh0_2, lh0_3) (getE (K.slice (4 : TypeId) K.bool) l2 x10) (lh1_0, lh1_1, lh1_2)).fst.snd.fst (scanL (xh0_0, xh0_1, xh0_2, lh0_3) (getE (K.slice (4 : TypeId) K.bool) l2 x10) (lh1_0, lh1_1, lh1_2)).fst.snd.snd (w2 ++ List.set (List.replicate (1 : Nat) (K.dflt k26)) (0 : Nat) (scanL (xh0_0, xh0_1, xh0_2, lh0_3) (getE (K.slice (4 : TypeId) K.bool) l2 x10) (lh1_0, lh1_1, lh1_2)).fst))) (R1 l2 w2)
theorem t19_0_mono {again : List (K.ty (K.slice (4 : TypeId) K.bool)) → Int → Int → Int → Int → List (K.ty k45) → List (K.ty K.bool) → List (K.ty K.bool) → List (K.ty K.bool) → List (K.ty k26) → Prop} {R0 : Int → Int → List (K.ty k26) → Prop} {R1 : List (K.ty (K.slice (4 : TypeId) K.bool)) → List (K.ty k26) → Prop} {again' : List (K.ty (K.slice (4 : TypeId) K.bool)) → Int → Int → Int → Int → List (K.ty k45) → List (K.ty K.bool) → List (K.ty K.bool) → List (K.ty K.bool) → List (K.ty k26) → Prop} {R0' : Int → Int → List (K.ty k26) → Prop} {R1' : List (K.ty (K.slice (4 : TypeId) K.bool)) → List (K.ty k26) → Prop} (ha : ∀ l2 x10 xh0_0 xh0_1 xh0_2 lh0_3 lh1_0 lh1_1 lh1_2 w2, again l2 x10 xh0_0 xh0_1 xh0_2 lh0_3 lh1_0 lh1_1 lh1_2 w2 → again' l2 x10 xh0_0 xh0_1 xh0_2 lh0_3 lh1_0 lh1_1 lh1_2 w2) (hr0 : ∀ x7 x8 w0, R0 x7 x8 w0 → R0' x7 x8 w0) (hr1 : ∀ l2 w0, R1 l2 w0 → R1' l2 w0) (l2 : List (K.ty (K.slice (4 : TypeId) K.bool))) (x10 : Int) (xh0_0 : Int) (xh0_1 : Int) (xh0_2 : Int) (lh0_3 : List (K.ty k45)) (lh1_0 : List (K.ty K.bool)) (lh1_1 : List (K.ty K.bool)) (lh1_2 : List (K.ty K.bool)) (w2 : List (K.ty k26)) :
    t19_0 again R0 R1 l2 x10 xh0_0 xh0_1 xh0_2 lh0_3 lh1_0 lh1_1 lh1_2 w2 → t19_0 again' R0' R1' l2 x10 xh0_0 xh0_1 xh0_2 lh0_3 lh1_0 lh1_1 lh1_2 w2 :=
  brM (andM (id) (andM (andM (id) (brM (hr0 _ _ _) (andM (id) (ha _ _ _ _ _ _ _ _ _ _)))) (andM (id) (brM (hr0 _ _ _) (andM (id) (ha _ _ _ _ _ _ _ _ _ _)))))) (hr1 _ _)
theorem t19_0_eq (n : Nat) (Q : Ex → St → Prop) (l2 : List (K.ty (K.slice (4 : TypeId) K.bool))) (x10 : Int) (xh0_0 : Int) (xh0_1 : Int) (xh0_2 : Int) (lh0_3 : List (K.ty k45)) (lh1_0 : List (K.ty K.bool)) (lh1_1 : List (K.ty K.bool)) (lh1_2 : List (K.ty K.bool)) (w2 : List (K.ty k26)) :
    t19_0 (fun l2 x10 xh0_0 xh0_1 xh0_2 lh0_3 lh1_0 lh1_1 lh1_2 w2 => loopP (awp tt E19 A19 L19_0 0) ([(2 : Nat), (3 : Nat), (4 : Nat), (9 : Nat), (10 : Nat)], [(2 : Nat), (9 : Nat)], [(6 : Nat), (7 : Nat), (8 : Nat)]) n (S19_0 l2 x10 xh0_0 xh0_1 xh0_2 lh0_3 lh1_0 lh1_1 lh1_2 w2) Q) (fun x7 x8 w0 => Q (Ex.ret) (X19_0_0 x7 x8 w0)) (fun l2 w0 => Q (Ex.exit (nat_lit 0)) (X19_0_1 l2 w0)) l2 x10 xh0_0 xh0_1 xh0_2 lh0_3 lh1_0 lh1_1 lh1_2 w2 = (loopP (awp tt E19 A19 L19_0 0) ([(2 : Nat), (3 : Nat), (4 : Nat), (9 : Nat), (10 : Nat)], [(2 : Nat), (9 : Nat)], [(6 : Nat), (7 : Nat), (8 : Nat)]) (n + 1) (S19_0 l2 x10 xh0_0 xh0_1 xh0_2 lh0_3 lh1_0 lh1_1 lh1_2 w2) Q) := by kernel_rfl
def G19_0 (R0 : Int → Int → List (K.ty k26) → Prop) (R1 : List (K.ty (K.slice (4 : TypeId) K.bool)) → List (K.ty k26) → Prop) : Nat → List (K.ty (K.slice (4 : TypeId) K.bool)) → Int → Int → Int → Int → List (K.ty k45) → List (K.ty K.bool) → List (K.ty K.bool) → List (K.ty K.bool) → List (K.ty k26) → Prop
  | 0, _, _, _, _, _, _, _, _, _, _ => False
  | n + 1, l2, x10, xh0_0, xh0_1, xh0_2, lh0_3, lh1_0, lh1_1, lh1_2, w2 => t19_0 (G19_0 R0 R1 n) R0 R1 l2 x10 xh0_0 xh0_1 xh0_2 lh0_3 lh1_0 lh1_1 lh1_2 w2
theorem T19_0 {R0 : Int → Int → List (K.ty k26) → Prop} {R1 : List (K.ty (K.slice (4 : TypeId) K.bool)) → List (K.ty k26) → Prop} (Q : Ex → St → Prop) (hr0 : ∀ x7 x8 w0, R0 x7 x8 w0 → Of (Q (Ex.ret) (X19_0_0 x7 x8 w0))) (hr1 : ∀ l2 w0, R1 l2 w0 → Of (Q (Ex.exit (nat_lit 0)) (X19_0_1 l2 w0))) : ∀ (n : Nat) (l2 : List (K.ty (K.slice (4 : TypeId) K.bool))) (x10 : Int) (xh0_0 : Int) (xh0_1 : Int) (xh0_2 : Int) (lh0_3 : List (K.ty k45)) (lh1_0 : List (K.ty K.bool)) (lh1_1 : List (K.ty K.bool)) (lh1_2 : List (K.ty K.bool)) (w2 : List (K.ty k26)), G19_0 R0 R1 n l2 x10 xh0_0 xh0_1 xh0_2 lh0_3 lh1_0 lh1_1 lh1_2 w2 → Of (loopP (awp tt E19 A19 L19_0 0) ([(2 : Nat), (3 : Nat), (4 : Nat), (9 : Nat), (10 : Nat)], [(2 : Nat), (9 : Nat)], [(6 : Nat), (7 : Nat), (8 : Nat)]) n (S19_0 l2 x10 xh0_0 xh0_1 xh0_2 lh0_3 lh1_0 lh1_1 lh1_2 w2) Q) := by
  intro n
  induction n with
  | zero => intro l2 x10 xh0_0 xh0_1 xh0_2 lh0_3 lh1_0 lh1_1 lh1_2 w2 h; exact h.elim
  | succ n ih =>
    intro l2 x10 xh0_0 xh0_1 xh0_2 lh0_3 lh1_0 lh1_1 lh1_2 w2 h
    exact kcO (t19_0_eq n Q l2 x10 xh0_0 xh0_1 xh0_2 lh0_3 lh1_0 lh1_1 lh1_2 w2) (t19_0_mono (fun _ _ _ _ _ _ _ _ _ _ h => (ih _ _ _ _ _ _ _ _ _ _ h).out) (fun _ _ _ h => (hr0 _ _ _ h).out) (fun _ _ h => (hr1 _ _ h).out) l2 x10 xh0_0 xh0_1 xh0_2 lh0_3 lh1_0 lh1_1 lh1_2 w2 h)
def t19 (Q : List V1 → List Ob → Prop) (lp0 : K.ty k23 → K.ty k26 → K.ty (K.slice (25 : TypeId) (K.slice (4 : TypeId) K.bool)) → Prop) (p0 : K.ty k23) (p1 : K.ty k26) (p2 : K.ty (K.slice (25 : TypeId) (K.slice (4 : TypeId) K.bool))) : Prop :=
  lp0 p0 p1 p2
theorem t19_mono {Q : List V1 → List Ob → Prop} {Q' : List V1 → List Ob → Prop} {lp0 : K.ty k23 → K.ty k26 → K.ty (K.slice (25 : TypeId) (K.slice (4 : TypeId) K.bool)) → Prop} {lp0' : K.ty k23 → K.ty k26 → K.ty (K.slice (25 : TypeId) (K.slice (4 : TypeId) K.bool)) → Prop} (hq : ∀ r h, Q r h → Q' r h) (hlp0 : ∀ p0 p1 p2, lp0 p0 p1 p2 → lp0' p0 p1 p2) (p0 : K.ty k23) (p1 : K.ty k26) (p2 : K.ty (K.slice (25 : TypeId) (K.slice (4 : TypeId) K.bool))) :
    t19 Q lp0 p0 p1 p2 → t19 Q' lp0' p0 p1 p2 :=
  hlp0 _ _ _
theorem t19_eq (Q : List V1 → List Ob → Prop) (p0 : K.ty k23) (p1 : K.ty k26) (p2 : K.ty (K.slice (25 : TypeId) (K.slice (4 : TypeId) K.bool))) :
    t19 Q (fun p0 p1 p2 => ∃ m, loopP (awp tt E19 A19 L19_0 0) ([(2 : Nat), (3 : Nat), (4 : Nat), (9 : Nat), (10 : Nat)], [(2 : Nat), (9 : Nat)], [(6 : Nat), (7 : Nat), (8 : Nat)]) m (S19_0 (p2) ((0 : Int)) (p0.fst) (p0.snd.fst) (p0.snd.snd.fst) (p0.snd.snd.snd) (p1.fst) (p1.snd.fst) (p1.snd.snd) ([])) (blkC (0 : Nat) (seqC (awp tt E19 A19 (Code.b (Code.b (Code.b (Func.code Try.f19)))) (0 : Nat)) (topC tt Try.f19 0 Q)))) p0 p1 p2 = (afun tt E19 A19 Try.f19 (I19 p0 p1 p2) [] Q) := by kernel_rfl
def t19c0x1 (Q : List V1 → List Ob → Prop) (p0 : K.ty k23) (p1 : K.ty k26) (p2 : K.ty (K.slice (25 : TypeId) (K.slice (4 : TypeId) K.bool))) (l2e3 : List (K.ty (K.slice (4 : TypeId) K.bool))) (w0e3 : List (K.ty k26)) : Prop :=
  Q [V1.one (Lf.own (0 : Nat)), V1.one (Lf.int IntKind.i64 (↑(List.length l2e3) : Int)), V1.one (Lf.int IntKind.i64 (0 : Int))] [Ob.row (27 : TypeId) k26 w0e3]
theorem t19c0x1_mono {Q : List V1 → List Ob → Prop} {Q' : List V1 → List Ob → Prop} (hq : ∀ r h, Q r h → Q' r h) (p0 : K.ty k23) (p1 : K.ty k26) (p2 : K.ty (K.slice (25 : TypeId) (K.slice (4 : TypeId) K.bool))) (l2e3 : List (K.ty (K.slice (4 : TypeId) K.bool))) (w0e3 : List (K.ty k26)) :
    t19c0x1 Q p0 p1 p2 l2e3 w0e3 → t19c0x1 Q' p0 p1 p2 l2e3 w0e3 :=
  hq _ _
theorem t19c0x1_eq (Q : List V1 → List Ob → Prop) (p0 : K.ty k23) (p1 : K.ty k26) (p2 : K.ty (K.slice (25 : TypeId) (K.slice (4 : TypeId) K.bool))) (l2e3 : List (K.ty (K.slice (4 : TypeId) K.bool))) (w0e3 : List (K.ty k26)) :
    t19c0x1 Q p0 p1 p2 l2e3 w0e3 = ((blkC (0 : Nat) (seqC (awp tt E19 A19 (Code.b (Code.b (Code.b (Func.code Try.f19)))) (0 : Nat)) (topC tt Try.f19 0 Q))) (Ex.exit (nat_lit 0)) (X19_0_1 l2e3 w0e3)) := by kernel_rfl
def t19c0x0 (Q : List V1 → List Ob → Prop) (p0 : K.ty k23) (p1 : K.ty k26) (p2 : K.ty (K.slice (25 : TypeId) (K.slice (4 : TypeId) K.bool))) (x7e3 : Int) (x8e3 : Int) (w0e3 : List (K.ty k26)) : Prop :=
  Q [V1.one (Lf.own (0 : Nat)), V1.one (Lf.int IntKind.i64 x7e3), V1.one (Lf.int IntKind.i64 x8e3)] [Ob.row (27 : TypeId) k26 w0e3]
theorem t19c0x0_mono {Q : List V1 → List Ob → Prop} {Q' : List V1 → List Ob → Prop} (hq : ∀ r h, Q r h → Q' r h) (p0 : K.ty k23) (p1 : K.ty k26) (p2 : K.ty (K.slice (25 : TypeId) (K.slice (4 : TypeId) K.bool))) (x7e3 : Int) (x8e3 : Int) (w0e3 : List (K.ty k26)) :
    t19c0x0 Q p0 p1 p2 x7e3 x8e3 w0e3 → t19c0x0 Q' p0 p1 p2 x7e3 x8e3 w0e3 :=
  hq _ _
theorem t19c0x0_eq (Q : List V1 → List Ob → Prop) (p0 : K.ty k23) (p1 : K.ty k26) (p2 : K.ty (K.slice (25 : TypeId) (K.slice (4 : TypeId) K.bool))) (x7e3 : Int) (x8e3 : Int) (w0e3 : List (K.ty k26)) :
    t19c0x0 Q p0 p1 p2 x7e3 x8e3 w0e3 = ((blkC (0 : Nat) (seqC (awp tt E19 A19 (Code.b (Code.b (Code.b (Func.code Try.f19)))) (0 : Nat)) (topC tt Try.f19 0 Q))) (Ex.ret) (X19_0_0 x7e3 x8e3 w0e3)) := by kernel_rfl
def H19 (Q : List V1 → List Ob → Prop) (p0 : K.ty k23) (p1 : K.ty k26) (p2 : K.ty (K.slice (25 : TypeId) (K.slice (4 : TypeId) K.bool))) : Prop := t19 Q (fun p0 p1 p2 => ∃ m, G19_0 (fun x7e3 x8e3 w0e3 => t19c0x0 Q p0 p1 p2 x7e3 x8e3 w0e3) (fun l2e3 w0e3 => t19c0x1 Q p0 p1 p2 l2e3 w0e3) m (p2) ((0 : Int)) (p0.fst) (p0.snd.fst) (p0.snd.snd.fst) (p0.snd.snd.snd) (p1.fst) (p1.snd.fst) (p1.snd.snd) ([])) p0 p1 p2
theorem ok19 (Q : List V1 → List Ob → Prop) (p0 : K.ty k23) (p1 : K.ty k26) (p2 : K.ty (K.slice (25 : TypeId) (K.slice (4 : TypeId) K.bool))) (h : H19 Q p0 p1 p2) : Of (afun tt E19 A19 Try.f19 (I19 p0 p1 p2) [] Q) :=
  kcO (t19_eq Q p0 p1 p2) (t19_mono (fun _ _ h => h) (fun p0 p1 p2 ⟨m, h⟩ => ⟨m, (T19_0 _ (fun x7e3 x8e3 w0e3 h => kcO (t19c0x0_eq _ _ _ _ _ _ _) (t19c0x0_mono (fun _ _ h => h) _ _ _ _ _ _ h)) (fun l2e3 w0e3 h => kcO (t19c0x1_eq _ _ _ _ _ _) (t19c0x1_mono (fun _ _ h => h) _ _ _ _ _ h)) m _ _ _ _ _ _ _ _ _ _ h).out⟩) p0 p1 p2 h)
theorem env19 : EnvOk Try.prog E19 := .cons spec12 (by kernel_rfl) <| .nil
theorem loop19 (l : Lad) (ins : List (List Bool)) (R0 : Int → Int → List Sta → Prop) (R1 : List (List Bool) → List Sta → Prop) (hl : ins.length ≤ 1000) :
    ∀ n (i : Nat) (s : Sta) (acc : List Sta), ins.length - i < n → i ≤ ins.length → acc.length ≤ i → small s →
      ((runGo l (ins.drop i) i s acc).2.2 ≠ 0 → R0 (runGo l (ins.drop i) i s acc).2.1 (runGo l (ins.drop i) i s acc).2.2 (runGo l (ins.drop i) i s acc).1) →
      ((runGo l (ins.drop i) i s acc).2.2 = 0 → R1 ins (runGo l (ins.drop i) i s acc).1) →
      G19_0 R0 R1 n ins i l.1 l.2.1 l.2.2.1 l.rungs s.1 s.2.1 s.2.2 acc := by
  intro n
  induction n with
  | zero => intro i s acc h; omega
  | succ n ih =>
    intro i s acc hn hi ha hs h0 h1
    refine brP_intro (fun c => ?_) (fun c => ?_)
    · have c : i < ins.length := by have := of_decide_eq_true c; omega
      rw [getE_cons kbs ins i c] at h0 h1
      simp only [runGo] at h0 h1
      have hw : IntKind.i64.wrap ((i : Int) + 1) = ((i + 1 : Nat) : Int) := by rw [wrap_in (by omega) (by omega)]; omega
      rw [hw]
      refine ⟨⟨by omega, by omega⟩, ?_, ?_⟩
      all_goals
        refine ⟨hs, brP_intro (fun d => ?_) (fun d => ?_)⟩
        · have d : ((scanL l (getE kbs ins i) s).2.2 != 0) = true := d
          rw [d] at h0
          exact h0 (by simpa using d)
        · have d : ((scanL l (getE kbs ins i) s).2.2 != 0) = false := d
          rw [d] at h0 h1
          refine ⟨room27 ?_, ?_⟩
          · rw [List.length_set, List.length_replicate]; omega
          · exact ih (i + 1) (scanL l (getE kbs ins i) s).1 (acc ++ [(scanL l (getE kbs ins i) s).1]) (by omega) (by omega) (by rw [List.length_append, List.length_singleton]; omega) (scanL_small hs l _) h0 h1
    · have c : ¬ i < ins.length := by have := of_decide_eq_false c; omega
      rw [List.drop_of_length_le (by omega)] at h1
      exact h1 rfl
theorem spec19 : SpecOk Try.prog 19 sp19 := S3.okS tt_ok mixed [kSs, ki, ki] env19 Try.func19 fun (l : Lad) (st : Sta) (ins : List (List Bool)) Q h => ok19 _ l st ins <| by
  obtain ⟨⟨hs, hl⟩, h⟩ := h
  have hlen := loop19 l ins (fun a b c => t19c0x0 (SQ [kSs, ki, ki] Q) l st ins a b c) (fun a b => t19c0x1 (SQ [kSs, ki, ki] Q) l st ins a b) hl (ins.length + 1) 0 st [] (by omega) (by omega) (by simp) hs (fun h0 => ?_) (fun h0 => ?_)
  · exact ⟨_, hlen⟩
  · rw [List.drop_zero] at h0 ⊢
    exact h
  · rw [List.drop_zero] at h0 ⊢
    have hc := runGo_count l ins 0 st [] h0
    have h : Q [nfK kSs (runGo l ins 0 st []).1, .one (.int .i64 (runGo l ins 0 st []).2.1), .one (.int .i64 (runGo l ins 0 st []).2.2)] [] := h
    rw [h0, hc, Nat.zero_add] at h
    exact h
end Go.AM
namespace Go.AM
open Go.Proofs
-- f6 "busbar/busbarlaw20.PathmodelRunMatchesReference" ['24', '27', '28'] -> ['4']
def A6 : Ann := [(0, [7, 10, 52, 53], [], [6])]
def E6 : Env := [(8, sp8), (9, sp9), (13, sp13), (18, sp18), (19, sp19)]
def I6 (p0 : (k23 : K).ty) (p1 : (k26 : K).ty) (p2 : ((.slice 25 (.slice 4 .bool)) : K).ty) : List V1 := [nfK k23 p0, nfK k26 p1, nfK (.slice 25 (.slice 4 .bool)) p2]
noncomputable def L6_0 : Code := Code.a (Code.a (Code.b (Code.a (Code.b (Code.b (Code.b (Code.b (Code.b (Func.code Try.f6)))))))))
def S6_0 (l7 : List (K.ty k26)) (l10 : List (K.ty k26)) (x52 : Int) (x53 : Int) : St := sp (68 : Nat) [((7 : Nat), V.v (V1.one (Lf.sl (27 : TypeId) k26 l7))), ((10 : Nat), V.v (V1.one (Lf.sl (27 : TypeId) k26 l10))), ((52 : Nat), V.v (V1.one (Lf.int IntKind.i64 x52))), ((53 : Nat), V.v (V1.one (Lf.int IntKind.i64 x53)))] []
def X6_0_0 (b6 : Bool) : St := sp (68 : Nat) [((6 : Nat), V.v (V1.one (Lf.bool b6)))] []
def X6_0_1 : St := sp (68 : Nat) [] []
def t6_0 (again : List (K.ty k26) → List (K.ty k26) → Int → Int → Prop) (R0 : Bool → Prop) (R1 : Prop) (l7 : List (K.ty k26)) (l10 : List (K.ty k26)) (x52 : Int) (x53 : Int) : Prop :=
  brP (decide (x53 < x52)) (bound x53 (List.length l7) ∧ bound x53 (List.length l10) ∧ List.length (getE k26 l7 x53).fst ≤ (4611686018427387904 : Nat) ∧ List.length (getE k26 l7 x53).snd.fst ≤ (4611686018427387904 : Nat) ∧ List.length (getE k26 l7 x53).snd.snd ≤ (4611686018427387904 : Nat) ∧ brP (!decide (getE k26 l7 x53 = getE k26 l10 x53)) (R0 false) (again l7 l10 x52 (IntKind.wrap IntKind.i64 (x53 + (1 : Int))))) R1
theorem t6_0_mono {again : List (K.ty k26) → List (K.ty k26) → Int → Int → Prop} {R0 : Bool → Prop} {R1 : Prop} {again' : List (K.ty k26) → List (K.ty k26) → Int → Int → Prop} {R0' : Bool → Prop} {R1' : Prop} (ha : ∀ l7 l10 x52 x53, again l7 l10 x52 x53 → again' l7 l10 x52 x53) (hr0 : ∀ b6, R0 b6 → R0' b6) (hr1 :  R1 → R1') (l7 : List (K.ty k26)) (l10 : List (K.ty k26)) (x52 : Int) (x53 : Int) :
    t6_0 again R0 R1 l7 l10 x52 x53 → t6_0 again' R0' R1' l7 l10 x52 x53 :=
  brM (andM (id) (andM (id) (andM (id) (andM (id) (andM (id) (brM (hr0 _) (ha _ _ _ _))))))) (hr1)
theorem t6_0_eq (n : Nat) (Q : Ex → St → Prop) (l7 : List (K.ty k26)) (l10 : List (K.ty k26)) (x52 : Int) (x53 : Int) :
    t6_0 (fun l7 l10 x52 x53 => loopP (awp tt E6 A6 L6_0 0) ([(7 : Nat), (10 : Nat), (52 : Nat), (53 : Nat)], [], [(6 : Nat)]) n (S6_0 l7 l10 x52 x53) Q) (fun b6 => Q (Ex.ret) (X6_0_0 b6)) ( Q (Ex.exit (nat_lit 0)) (X6_0_1)) l7 l10 x52 x53 = (loopP (awp tt E6 A6 L6_0 0) ([(7 : Nat), (10 : Nat), (52 : Nat), (53 : Nat)], [], [(6 : Nat)]) (n + 1) (S6_0 l7 l10 x52 x53) Q) := by kernel_rfl
def G6_0 (R0 : Bool → Prop) (R1 : Prop) : Nat → List (K.ty k26) → List (K.ty k26) → Int → Int → Prop
  | 0, _, _, _, _ => False
  | n + 1, l7, l10, x52, x53 => t6_0 (G6_0 R0 R1 n) R0 R1 l7 l10 x52 x53
theorem T6_0 {R0 : Bool → Prop} {R1 : Prop} (Q : Ex → St → Prop) (hr0 : ∀ b6, R0 b6 → Of (Q (Ex.ret) (X6_0_0 b6))) (hr1 :  R1 → Of (Q (Ex.exit (nat_lit 0)) (X6_0_1))) : ∀ (n : Nat) (l7 : List (K.ty k26)) (l10 : List (K.ty k26)) (x52 : Int) (x53 : Int), G6_0 R0 R1 n l7 l10 x52 x53 → Of (loopP (awp tt E6 A6 L6_0 0) ([(7 : Nat), (10 : Nat), (52 : Nat), (53 : Nat)], [], [(6 : Nat)]) n (S6_0 l7 l10 x52 x53) Q) := by
  intro n
  induction n with
  | zero => intro l7 l10 x52 x53 h; exact h.elim
  | succ n ih =>
    intro l7 l10 x52 x53 h
    exact kcO (t6_0_eq n Q l7 l10 x52 x53) (t6_0_mono (fun _ _ _ _ h => (ih _ _ _ _ h).out) (fun _ h => (hr0 _ h).out) (fun h => (hr1 h).out) l7 l10 x52 x53 h)
def t6 (Q : List V1 → List Ob → Prop) (lp0 : K.ty k23 → K.ty k26 → K.ty (K.slice (25 : TypeId) (K.slice (4 : TypeId) K.bool)) → Int → Prop) (p0 : K.ty k23) (p1 : K.ty k26) (p2 : K.ty (K.slice (25 : TypeId) (K.slice (4 : TypeId) K.bool))) : Prop :=
  (wideL p0 ∧ List.length p2 ≤ (4611686018427387904 : Nat)) ∧ ∀ (v3 : Int), isBit v3 → (v3 = (0 : Int) → okIn p0 p1 p2) → brP (decide (v3 > (0 : Int))) (Q [V1.one (Lf.bool true)] []) ((small p1 ∧ List.length p2 ≤ (1000 : Nat)) ∧ (small p1 ∧ List.length p2 ≤ (1000 : Nat)) ∧ brP ((↑(List.length (runL p0 p1 p2).fst) : Int) != (↑(List.length (runL p0 p1 p2).fst) : Int)) (Q [V1.one (Lf.bool false)] []) (brP ((runL p0 p1 p2).snd.fst != (runL p0 p1 p2).snd.fst) (Q [V1.one (Lf.bool false)] []) (brP ((runL p0 p1 p2).snd.snd != (runL p0 p1 p2).snd.snd) (Q [V1.one (Lf.bool false)] []) (lp0 p0 p1 p2 v3))))
theorem t6_mono {Q : List V1 → List Ob → Prop} {Q' : List V1 → List Ob → Prop} {lp0 : K.ty k23 → K.ty k26 → K.ty (K.slice (25 : TypeId) (K.slice (4 : TypeId) K.bool)) → Int → Prop} {lp0' : K.ty k23 → K.ty k26 → K.ty (K.slice (25 : TypeId) (K.slice (4 : TypeId) K.bool)) → Int → Prop} (hq : ∀ r h, Q r h → Q' r h) (hlp0 : ∀ p0 p1 p2 v3, lp0 p0 p1 p2 v3 → lp0' p0 p1 p2 v3) (p0 : K.ty k23) (p1 : K.ty k26) (p2 : K.ty (K.slice (25 : TypeId) (K.slice (4 : TypeId) K.bool))) :
    t6 Q lp0 p0 p1 p2 → t6 Q' lp0' p0 p1 p2 :=
  andM (andM (id) (id)) (fun hh x => ap (hh x) (fun hh x => ap (hh x) (fun hh x => ap (hh x) (brM (hq _ _) (andM (andM (id) (id)) (andM (andM (id) (id)) (brM (hq _ _) (brM (hq _ _) (brM (hq _ _) (hlp0 _ _ _ _))))))))))
theorem t6_eq (Q : List V1 → List Ob → Prop) (p0 : K.ty k23) (p1 : K.ty k26) (p2 : K.ty (K.slice (25 : TypeId) (K.slice (4 : TypeId) K.bool))) :
    t6 Q (fun p0 p1 p2 v3 => ∃ m, loopP (awp tt E6 A6 L6_0 0) ([(7 : Nat), (10 : Nat), (52 : Nat), (53 : Nat)], [], [(6 : Nat)]) m (S6_0 ((runL p0 p1 p2).fst) ((runL p0 p1 p2).fst) ((↑(List.length (runL p0 p1 p2).fst) : Int)) ((0 : Int))) (blkC (0 : Nat) (seqC (awp tt E6 A6 (Code.b (Code.b (Code.b (Code.b (Code.b (Code.b (Func.code Try.f6))))))) (0 : Nat)) (topC tt Try.f6 0 Q)))) p0 p1 p2 = (afun tt E6 A6 Try.f6 (I6 p0 p1 p2) [] Q) := by kernel_rfl
def t6c0x1 (Q : List V1 → List Ob → Prop) (p0 : K.ty k23) (p1 : K.ty k26) (p2 : K.ty (K.slice (25 : TypeId) (K.slice (4 : TypeId) K.bool))) (v3 : Int) : Prop :=
  Q [V1.one (Lf.bool true)] []
theorem t6c0x1_mono {Q : List V1 → List Ob → Prop} {Q' : List V1 → List Ob → Prop} (hq : ∀ r h, Q r h → Q' r h) (p0 : K.ty k23) (p1 : K.ty k26) (p2 : K.ty (K.slice (25 : TypeId) (K.slice (4 : TypeId) K.bool))) (v3 : Int) :
    t6c0x1 Q p0 p1 p2 v3 → t6c0x1 Q' p0 p1 p2 v3 :=
  hq _ _
theorem t6c0x1_eq (Q : List V1 → List Ob → Prop) (p0 : K.ty k23) (p1 : K.ty k26) (p2 : K.ty (K.slice (25 : TypeId) (K.slice (4 : TypeId) K.bool))) (v3 : Int) :
    t6c0x1 Q p0 p1 p2 v3 = ((blkC (0 : Nat) (seqC (awp tt E6 A6 (Code.b (Code.b (Code.b (Code.b (Code.b (Code.b (Func.code Try.f6))))))) (0 : Nat)) (topC tt Try.f6 0 Q))) (Ex.exit (nat_lit 0)) (X6_0_1)) := by kernel_rfl
def t6c0x0 (Q : List V1 → List Ob → Prop) (p0 : K.ty k23) (p1 : K.ty k26) (p2 : K.ty (K.slice (25 : TypeId) (K.slice (4 : TypeId) K.bool))) (v3 : Int) (b6e4 : Bool) : Prop :=
  Q [V1.one (Lf.bool b6e4)] []
theorem t6c0x0_mono {Q : List V1 → List Ob → Prop} {Q' : List V1 → List Ob → Prop} (hq : ∀ r h, Q r h → Q' r h) (p0 : K.ty k23) (p1 : K.ty k26) (p2 : K.ty (K.slice (25 : TypeId) (K.slice (4 : TypeId) K.bool))) (v3 : Int) (b6e4 : Bool) :
    t6c0x0 Q p0 p1 p2 v3 b6e4 → t6c0x0 Q' p0 p1 p2 v3 b6e4 :=
  hq _ _
theorem t6c0x0_eq (Q : List V1 → List Ob → Prop) (p0 : K.ty k23) (p1 : K.ty k26) (p2 : K.ty (K.slice (25 : TypeId) (K.slice (4 : TypeId) K.bool))) (v3 : Int) (b6e4 : Bool) :
    t6c0x0 Q p0 p1 p2 v3 b6e4 = ((blkC (0 : Nat) (seqC (awp tt E6 A6 (Code.b (Code.b (Code.b (Code.b (Code.b (Code.b (Func.code Try.f6))))))) (0 : Nat)) (topC tt Try.f6 0 Q))) (Ex.ret) (X6_0_0 b6e4)) := by kernel_rfl
def H6 (Q : List V1 → List Ob → Prop) (p0 : K.ty k23) (p1 : K.ty k26) (p2 : K.ty (K.slice (25 : TypeId) (K.slice (4 : TypeId) K.bool))) : Prop := t6 Q (fun p0 p1 p2 v3 => ∃ m, G6_0 (fun b6e4 => t6c0x0 Q p0 p1 p2 v3 b6e4) ( t6c0x1 Q p0 p1 p2 v3) m ((runL p0 p1 p2).fst) ((runL p0 p1 p2).fst) ((↑(List.length (runL p0 p1 p2).fst) : Int)) ((0 : Int))) p0 p1 p2
theorem ok6 (Q : List V1 → List Ob → Prop) (p0 : K.ty k23) (p1 : K.ty k26) (p2 : K.ty (K.slice (25 : TypeId) (K.slice (4 : TypeId) K.bool))) (h : H6 Q p0 p1 p2) : Of (afun tt E6 A6 Try.f6 (I6 p0 p1 p2) [] Q) :=
  kcO (t6_eq Q p0 p1 p2) (t6_mono (fun _ _ h => h) (fun p0 p1 p2 v3 ⟨m, h⟩ => ⟨m, (T6_0 _ (fun b6e4 h => kcO (t6c0x0_eq _ _ _ _ _ _) (t6c0x0_mono (fun _ _ h => h) _ _ _ _ _ h)) (fun h => kcO (t6c0x1_eq _ _ _ _ _) (t6c0x1_mono (fun _ _ h => h) _ _ _ _ h)) m _ _ _ _ h).out⟩) p0 p1 p2 h)
theorem env6 : EnvOk Try.prog E6 := .cons spec8 (by kernel_rfl) <| .cons spec9 (by kernel_rfl) <| .cons spec13 (by kernel_rfl) <| .cons spec18 (by kernel_rfl) <| .cons spec19 (by kernel_rfl) <| .nil
theorem loop6 (a : List Sta) (R0 : Bool → Prop) (R1 : Prop) (hn : a.length ≤ 1000) (hs : ∀ s ∈ a, small s) (h1 : R1) : ∀ n (i : Nat), a.length - i < n → G6_0 R0 R1 n a a a.length i := by
  intro n
  induction n with
  | zero => intro i h; omega
  | succ n ih =>
    intro i hi
    refine brP_intro (fun e => ?_) (fun _ => h1)
    have e : i < a.length := by have := of_decide_eq_true e; omega
    obtain ⟨w1, w2, w3⟩ := wide_small (hs _ (getE_mem26 e))
    have hw : IntKind.wrap IntKind.i64 ((i : Int) + 1) = ((i + 1 : Nat) : Int) := by rw [wrap_in (by omega) (by omega)]; omega
    have hb : bound (i : Int) a.length := ⟨by omega, by omega⟩
    refine ⟨hb, hb, w1, w2, w3, brP_intro (fun f => ?_) (fun _ => ?_)⟩
    · have f : (!decide (getE k26 a (i : Int) = getE k26 a (i : Int))) = true := f
      rw [decide_eq_true rfl] at f
      cases f
    · rw [hw]; exact ih (i + 1) (by omega)
def F6 (l : Lad) (st : Sta) (ins : List (List Bool)) (Q : QT) : Prop := (wideL l ∧ ins.length ≤ 4611686018427387904) ∧ Q [.one (.bool true)] []
def sp6 : PT := S3 k23 k26 kIns F6
theorem runL_len (l : Lad) (st : Sta) (ins : List (List Bool)) : (runL l st ins).1.length ≤ ins.length := by
  by_cases h : (runL l st ins).2.2 = 0
  · have := runGo_len l ins 0 st [] h
    have h2 : (runL l st ins).1.length = 0 + ins.length := this
    omega
  · have : (runL l st ins).1 = [] := runGo_bad l ins 0 st [] h
    rw [this]; simp
theorem spec6 : SpecOk Try.prog 6 sp6 := S3.ok tt_ok mixed env6 Try.func6 fun (l : Lad) (st : Sta) (ins : List (List Bool)) Q h => ok6 Q l st ins <| by
  obtain ⟨h1, hq⟩ := h
  refine ⟨h1, fun v hv hok => brP_intro (fun c => hq) (fun c => ?_)⟩
  have c : ¬ v > 0 := of_decide_eq_false c
  have v0 : v = 0 := by rcases hv with h | h <;> omega
  obtain ⟨o1, o2, o3, o4⟩ := hok v0
  have hs := small_of_big o2
  have hl := runL_len l st ins
  refine ⟨⟨hs, by omega⟩, ⟨hs, by omega⟩, brP_intro (fun f => by simp at f) (fun _ => brP_intro (fun f => by simp at f) (fun _ => brP_intro (fun f => by simp at f) (fun _ => ?_)))⟩
  exact ⟨(runL l st ins).1.length + 1, loop6 (runL l st ins).1 _ _ (by omega) (runGo_small l _ 0 st [] hs (by simp)) hq _ 0 (by omega)⟩
end Go.AM
namespace Go.AM
open Go.RowKit Go.ChangeShapes Go.WideShapes Go.Deep
mutual
/-- A type of a kind. -/
inductive IsK (P : Program) : TypeId → K → Prop
  | int {t : TypeId} {ik : IntKind} : P.underlying t = some (.int ik) → IsK P t (.int ik)
  | bool {t : TypeId} : P.underlying t = some .bool → IsK P t .bool
  | str {t : TypeId} : P.underlying t = some .string → IsK P t .str
  | slice {t e : TypeId} {k : K} : P.underlying t = some (.slice e) → P.cellsOf e = k.sz → 0 < P.bytesOf e → IsK P e k → IsK P t (.slice e k)
  | struct {t : TypeId} {fs : Array Field} {k : K} : P.underlying t = some (.struct fs) → P.cellsOf t = k.sz → IsF P fs.toList 0 k → IsK P t k
inductive IsF (P : Program) : List Field → Nat → K → Prop
  | one {f : Field} {o : Nat} {k : K} : f.offset = o → P.cellsOf f.type = k.sz → IsK P f.type k → IsF P [f] o k
  | cons {f : Field} {o : Nat} {r : List Field} {a b : K} : f.offset = o → P.cellsOf f.type = a.sz → IsK P f.type a → IsF P r (o + a.sz) b → IsF P (f :: r) o (.pair a b)
end
/-- Every slice in it is of a length that fits. -/
def SzK : (k : K) → k.ty → Prop
  | .int _, _ => True
  | .bool, _ => True
  | .str, _ => True
  | .pair a b, x => SzK a x.1 ∧ SzK b x.2
  | .slice _ k, l => l.length ≤ 140737488351232 ∧ ∀ x ∈ l, SzK k x
def InW (w : World) (g : Nat) : Prop := g < w.heap.size
section
variable {H : Type} {enc : TypeId × Value → H} {P : Program} {w : World} {base : Nat} {held : Bool}
theorem all_left {a b : List Nat} {p : Nat → Bool} (h : (a ++ b).all p = true) : a.all p = true ∧ b.all p = true := by simpa using h
theorem weightsAll_get {e : TypeId} : ∀ {ds : List (DataW H)} {i : Nat} {d : DataW H}, (DataW.weightsAll P e ds).all (· ≤ reachBytes) = true → ds[i]? = some d → (d.weights P e).all (· ≤ reachBytes) = true
  | [], _, _, _, hi => by simp at hi
  | x :: r, 0, d, h, hi => by
    simp at hi; subst hi
    rw [DataW.weightsAll] at h
    exact (all_left h).1
  | x :: r, i + 1, d, h, hi => by
    rw [DataW.weightsAll] at h
    exact weightsAll_get (all_left h).2 (by simpa using hi)
theorem add_at (b o j : Nat) : (⟨b, o, none⟩ : Addr).add j = ⟨b, o + j, none⟩ := by unfold Addr.add; split <;> simp_all
theorem cells_spot {a : Addr} {n : Nat} {cs : List Value} (hn : 0 < n) (h : w.cells? base a n = some cs) : a.spot = none := by
  obtain ⟨_, hl, hat⟩ := World.cells?_some h
  have h0 := hat 0 hn
  have ha : a.add 0 = a := by simp [Addr.add]
  rw [ha, List.getElem?_eq_getElem (by omega)] at h0
  unfold World.cell? at h0
  cases hsp : a.spot with
  | none => rfl
  | some _ => rw [hsp] at h0; split at h0 <;> simp at h0
theorem cells_row {g o n : Nat} {cs : List Value} (hn : 0 < n) (h : w.cells? base ⟨g, o, none⟩ n = some cs) :
    ∃ cur t fr, w.heap[g]? = some (.cells cur t fr) ∧ o + n ≤ cur.size ∧ cs = (cur.toList.drop o).take n := by
  obtain ⟨_, hl, hat⟩ := World.cells?_some h
  have hat : ∀ i, i < n → w.cell? ⟨g, o + i, none⟩ = cs[i]? := fun i hi => by rw [← hat i hi, add_at]
  have h0 := hat 0 hn
  rw [List.getElem?_eq_getElem (by omega)] at h0
  unfold World.cell? at h0
  cases ho : w.heap[g]? with
  | none => simp [ho] at h0
  | some ob =>
    cases ob with
    | cells cur t fr =>
      have hget : ∀ i, i < n → cur[o + i]? = cs[i]? := fun i hi => by
        have h1 := hat i hi
        unfold World.cell? at h1
        simpa [ho] using h1
      have hsz : o + n ≤ cur.size := by
        have h2 := hget (n - 1) (by omega)
        rw [List.getElem?_eq_getElem (show n - 1 < cs.length by omega)] at h2
        have := (Array.getElem?_eq_some_iff.1 h2).1
        omega
      refine ⟨cur, t, fr, rfl, hsz, ?_⟩
      refine List.ext_getElem? fun i => ?_
      rw [List.getElem?_take]
      split
      · rename_i hi
        rw [← hget i hi, List.getElem?_drop]
        simp
      · rename_i hi
        exact List.getElem?_eq_none (by omega)
    | _ => simp [ho] at h0
/-- What opening a slice's elements gives. -/
theorem open_elems {k : K} {e : TypeId} {g o len m n : Nat} {D : Nat → DataW H} {Pl : Nat → List MemPlace} {cur : Array Value} {tg : TypeId} {fr : Nat × Nat} (hg : w.heap[g]? = some (.cells cur tg fr)) (ho : o ≤ cur.size) (hlm : len ≤ m)
    (hi : ∀ i, i < m → ∃ cs', w.cells? base ⟨g, o + i * k.sz, none⟩ k.sz = some cs' ∧ DataW.trod enc P w base (fun _ => true) held n e cs' = some (D i, Pl i))
    (hz : ∀ i, i < len → ((D i).weights P e).all (· ≤ reachBytes) = true)
    (ih : ∀ {fuel : Nat} {cs : List Value} {x : DataW H × List MemPlace}, DataW.trod enc P w base (fun _ => true) held fuel e cs = some x → (x.1.weights P e).all (· ≤ reachBytes) = true → ∃ y, RdC w (InW w) k y cs ∧ SzK k y) :
    ∀ j, j ≤ len → ∃ l : List k.ty, l.length = j ∧ RdRow (RdC w (InW w) k) k.sz l ((cur.toList.drop o).take (j * k.sz)) ∧ o + j * k.sz ≤ cur.size ∧ ∀ y ∈ l, SzK k y := by
  intro j
  induction j with
  | zero => intro _; exact ⟨[], rfl, by simp [RdRow], by simpa using ho, by simp⟩
  | succ j ihj =>
    intro hj
    obtain ⟨l, h1, h2, h3, h4⟩ := ihj (by omega)
    obtain ⟨csj, hcj, htj⟩ := hi j (by omega)
    obtain ⟨cur', tg', fr', hg', hoff', hcsj⟩ := cells_row k.sz_pos hcj
    rw [hg] at hg'
    cases hg'
    obtain ⟨y, hy, hzy⟩ := ih htj (hz j (by omega))
    refine ⟨l ++ [y], by simp [h1], ?_, by rw [Nat.add_mul]; omega, fun z hzm => ?_⟩
    · have e1 : (cur.toList.drop o).take ((j + 1) * k.sz) = (cur.toList.drop o).take (j * k.sz) ++ csj := by
        rw [hcsj, Nat.add_mul, Nat.one_mul, List.take_add, List.drop_drop]
      rw [e1]
      exact h2.append ⟨csj, [], by simp, by rw [hy.len], hy, rfl⟩
    · rcases List.mem_append.1 hzm with hzm | hzm
      · exact h4 z hzm
      · rw [List.mem_singleton.1 hzm]; exact hzy
abbrev OpensK (enc : TypeId × Value → H) (P : Program) (w : World) (base : Nat) (held : Bool) (t : TypeId) (k : K) : Prop :=
  ∀ {fuel : Nat} {cs : List Value} {x : DataW H × List MemPlace}, DataW.trod enc P w base (fun _ => true) held fuel t cs = some x → (x.1.weights P t).all (· ≤ reachBytes) = true → ∃ y, RdC w (InW w) k y cs ∧ SzK k y
abbrev OpensF (enc : TypeId × Value → H) (P : Program) (w : World) (base : Nat) (held : Bool) (fs : List Field) (o : Nat) (k : K) : Prop :=
  ∀ {xs : List (DataW H × List MemPlace)} {n : Nat} {cs : List Value}, xs.length = fs.length →
    (∀ (i : Nat) (f : Field), fs[i]? = some f → DataW.trod enc P w base (fun _ => true) held n f.type ((cs.drop f.offset).take (P.cellsOf f.type)) = xs[i]?) →
    (DataW.weightsEach P (fs.map (·.type)) (xs.map (·.1))).all (· ≤ reachBytes) = true → ∃ y, RdC w (InW w) k y ((cs.drop o).take k.sz) ∧ SzK k y
theorem open_slice_k {t e : TypeId} {k : K} (ht : P.underlying t = some (.slice e)) (hc : P.cellsOf e = k.sz) (hb : 0 < P.bytesOf e) (ih : OpensK enc P w base held e k) : OpensK enc P w base held t (.slice e k) := by
  intro fuel cs x h hz
  rcases open_slice ht h with ⟨hcs, _⟩ | ⟨a, len, cap, m, n, D, Pl, hcs, _, hl, hm, hmm, hx, hi⟩
  · exact ⟨[], ⟨_, hcs, .inl ⟨rfl, none, rfl⟩⟩, by simp, by simp⟩
  · simp only [if_true] at hmm
    rw [hx] at hz
    simp only [DataW.weights, ht, List.all_cons, Bool.and_eq_true, decide_eq_true_eq] at hz
    obtain ⟨hz1, hz2⟩ := hz
    have hz2 := (all_left hz2).1
    have hlen : len ≤ 140737488351232 := by
      have h1 : (((List.range len).map D).length + ((List.range (m - len)).map fun j => D (len + j)).length) * 1 ≤ (((List.range len).map D).length + ((List.range (m - len)).map fun j => D (len + j)).length) * P.bytesOf e := Nat.mul_le_mul_left _ hb
      simp only [List.length_map, List.length_range] at h1 hz1
      simp only [reachBytes] at hz1
      omega
    by_cases hcap : m = 0
    · have hl0 : len = 0 := by omega
      have hc0 : cap = 0 := by omega
      subst hl0 hc0
      exact ⟨[], ⟨_, hcs, .inl ⟨rfl, some a, rfl⟩⟩, by simp, by simp⟩
    · obtain ⟨cs0, hc0, _⟩ := hi 0 (by omega)
      rw [hc] at hc0 hi
      have ha0 : a.add (0 * k.sz) = a := by simp [Addr.add]
      rw [ha0] at hc0
      have hsp := cells_spot k.sz_pos hc0
      obtain ⟨g, o, sp⟩ := a
      have hsp : sp = none := hsp
      subst hsp
      obtain ⟨cur, tg, fr, hg, hoff0, _⟩ := cells_row k.sz_pos hc0
      obtain ⟨l, h1, h2, h3, h4⟩ := open_elems (o := o) (Pl := Pl) (n := n) hg (by omega) (show len ≤ m by omega) (fun i him => by
        have := hi i him
        rw [add_at] at this
        exact this) (fun i hil => weightsAll_get (i := i) (d := D i) hz2 (by simp [hil])) ih len (Nat.le_refl _)
      subst h1
      exact ⟨l, ⟨_, hcs, .inr ⟨g, o, cap, cur, tg, fr, rfl, (Array.getElem?_eq_some_iff.1 hg).1, hg, hl, h3, h2⟩⟩, hlen, h4⟩
theorem open_k {t : TypeId} {k : K} (hk : IsK P t k) : OpensK enc P w base held t k := by
  refine IsK.rec (motive_1 := fun t k _ => OpensK enc P w base held t k) (motive_2 := fun fs o k _ => OpensF enc P w base held fs o k) ?_ ?_ ?_ ?_ ?_ ?_ ?_ hk
  · intro t ik ht fuel cs x h hz
    obtain ⟨n, hcs, _⟩ := DataW.trod_int ht h
    exact ⟨n, hcs, trivial⟩
  · intro t ht fuel cs x h hz
    obtain ⟨n, hcs, _⟩ := DataW.trod_bool ht h
    exact ⟨n, hcs, trivial⟩
  · intro t ht fuel cs x h hz
    obtain ⟨n, hcs, _⟩ := DataW.trod_string ht h
    exact ⟨n, hcs, trivial⟩
  · intro t e k ht hc hb _ ih
    exact open_slice_k ht hc hb ih
  · intro t fs k ht hc hf ih fuel cs x h hz
    obtain ⟨xs, n, _, hx, hl, hxl, hg⟩ := DataW.trod_struct ht h
    rw [hx] at hz
    simp only [DataW.weights, ht] at hz
    obtain ⟨y, hy, hzy⟩ := ih (xs := xs) (n := n) (cs := cs) (by simpa using hxl) (fun i f hi => hg i f (by simpa using hi)) hz
    rw [List.drop_zero, List.take_of_length_le (by omega)] at hy
    exact ⟨y, hy, hzy⟩
  · intro f o k ho hc hk ih xs n cs hl h hz
    match xs, hl with
    | [x], _ =>
      have h0 := h 0 f rfl
      rw [ho, hc] at h0
      simp only [List.map_cons, List.map_nil, DataW.weightsEach] at hz
      exact ih h0 (all_left hz).1
  · intro f o r a b ho hc hk hr ih1 ih2 xs n cs hl h hz
    match xs, hl with
    | x :: xs, hl =>
      have h0 := h 0 f rfl
      rw [ho, hc] at h0
      simp only [List.map_cons, DataW.weightsEach] at hz
      obtain ⟨hz1, hz2⟩ := all_left hz
      obtain ⟨y, hy, hzy⟩ := ih1 h0 hz1
      obtain ⟨z, hzz, hzz2⟩ := ih2 (xs := xs) (n := n) (cs := cs) (by simpa using hl) (fun i f hi => h (i + 1) f (by simpa using hi)) hz2
      refine ⟨(y, z), ⟨_, _, ?_, hy, hzz⟩, hzy, hzz2⟩
      show (cs.drop o).take (a.sz + b.sz) = _
      rw [List.take_add, List.drop_drop]
end
end Go.AM
namespace Go.AM
open Go.RowKit Go.ChangeShapes Go.WideShapes Go.Proofs
theorem isK3 : IsK Try.prog 3 ki := .int Try.underlying3
theorem isK9 : IsK Try.prog 9 .str := .str Try.underlying9
theorem isK4 : IsK Try.prog 4 .bool := .bool Try.underlying4
theorem isK25 : IsK Try.prog 25 kbs := .slice Try.underlying25 (by kernel_rfl) (of_decide_eq_true (by kernel_rfl)) isK4
theorem isK28 : IsK Try.prog 28 kIns := .slice Try.underlying28 (by kernel_rfl) (of_decide_eq_true (by kernel_rfl)) isK25
theorem isK27 : IsK Try.prog 27 k26 := .struct Try.underlying27 (by kernel_rfl) (.cons rfl (by kernel_rfl) isK25 (.cons rfl (by kernel_rfl) isK25 (.one rfl (by kernel_rfl) isK25)))
theorem isK73 : IsK Try.prog 73 k72 := .struct Try.underlying73 (by kernel_rfl) (.cons rfl (by kernel_rfl) isK3 (.one rfl (by kernel_rfl) isK3))
theorem isK75 : IsK Try.prog 75 k74 := .struct Try.underlying75 (by kernel_rfl) (.cons rfl (by kernel_rfl) isK3 (.cons rfl (by kernel_rfl) isK73 (.cons rfl (by kernel_rfl) isK9 (.one rfl (by kernel_rfl) isK9))))
theorem isK77 : IsK Try.prog 77 k76 := .struct Try.underlying77 (by kernel_rfl) (.cons rfl (by kernel_rfl) isK3 (.one rfl (by kernel_rfl) isK73))
theorem isK43 : IsK Try.prog 43 (.slice 75 k74) := .slice Try.underlying43 (by kernel_rfl) (of_decide_eq_true (by kernel_rfl)) isK75
theorem isK44 : IsK Try.prog 44 (.slice 77 k76) := .slice Try.underlying44 (by kernel_rfl) (of_decide_eq_true (by kernel_rfl)) isK77
theorem isK46 : IsK Try.prog 46 k45 := .struct Try.underlying46 (by kernel_rfl) (.cons rfl (by kernel_rfl) isK9 (.cons rfl (by kernel_rfl) isK43 (.cons rfl (by kernel_rfl) isK44 (.one rfl (by kernel_rfl) isK9))))
theorem isK22 : IsK Try.prog 22 kR := .slice Try.underlying22 (by kernel_rfl) (of_decide_eq_true (by kernel_rfl)) isK46
theorem isK24 : IsK Try.prog 24 k23 := .struct Try.underlying24 (by kernel_rfl) (.cons rfl (by kernel_rfl) isK3 (.cons rfl (by kernel_rfl) isK3 (.cons rfl (by kernel_rfl) isK3 (.one rfl (by kernel_rfl) isK22))))
theorem dk23 (x : k23.ty) (Q : k23.ty → Prop) : dK k23 (nfK k23 x) Q = Q x := by kernel_rfl
theorem dk26 (x : k26.ty) (Q : k26.ty → Prop) : dK k26 (nfK k26 x) Q = Q x := by kernel_rfl
theorem dkbs (x : kbs.ty) (Q : kbs.ty → Prop) : dK kbs (nfK kbs x) Q = Q x := by kernel_rfl
theorem dkIns (x : kIns.ty) (Q : kIns.ty → Prop) : dK kIns (nfK kIns x) Q = Q x := by kernel_rfl
theorem S3_nf25 {F : k23.ty → k26.ty → kbs.ty → QT → Prop} {l : k23.ty} {st : k26.ty} {inp : kbs.ty} {Q : QT} (h : F l st inp Q) : S3 k23 k26 kbs F [nfK k23 l, nfK k26 st, nfK kbs inp] [] Q := by
  have e : S3 k23 k26 kbs F [nfK k23 l, nfK k26 st, nfK kbs inp] [] Q = dK k23 (nfK k23 l) (fun x => dK k26 (nfK k26 st) fun y => dK kbs (nfK kbs inp) fun z => F x y z Q) := rfl
  rw [e, dk23, dk26, dkbs]; exact h
theorem S3_nf28 {F : k23.ty → k26.ty → kIns.ty → QT → Prop} {l : k23.ty} {st : k26.ty} {inp : kIns.ty} {Q : QT} (h : F l st inp Q) : S3 k23 k26 kIns F [nfK k23 l, nfK k26 st, nfK kIns inp] [] Q := by
  have e : S3 k23 k26 kIns F [nfK k23 l, nfK k26 st, nfK kIns inp] [] Q = dK k23 (nfK k23 l) (fun x => dK k26 (nfK k26 st) fun y => dK kIns (nfK kIns inp) fun z => F x y z Q) := rfl
  rw [e, dk23, dk26, dkIns]; exact h
theorem wide_of {l : k23.ty} (h : SzK k23 l) : wideL l := by
  obtain ⟨_, _, _, h1, h2⟩ := h
  refine ⟨Nat.le_trans h1 (by omega), fun r hr => ?_⟩
  obtain ⟨_, h3, _⟩ := h2 r hr
  exact Nat.le_trans h3.1 (by omega)
section
variable {P : Program} {W : World} {Ok : Nat → Prop}
theorem rel_pair {a b : K} {y : (K.pair a b).ty} {v : Value} {cs : Array Value} (hv : v = .agg cs) (h : RdC W Ok (.pair a b) y v.cells.toList) : RelV1 W Ok [] (nfK (.pair a b) y) v := by
  subst hv
  exact ⟨cs, rfl, leaves_rel h⟩
theorem rel_slice {e : TypeId} {k : K} {l : List k.ty} {v : Value} {a : Option Addr} {n c : Nat} (hv : v = .slice a n c) (h : RdC W Ok (.slice e k) l v.cells.toList) : RelV1 W Ok [] (nfK (.slice e k) l) v := by
  subst hv
  obtain ⟨u, hu, h⟩ := h
  have hc : (Value.slice a n c).cells.toList = [.slice a n c] := rfl
  rw [hc] at hu
  cases hu
  exact h
theorem weightsEach_get {H : Type} : ∀ {ts : List TypeId} {ds : List (DataW H)} {j : Nat} {t : TypeId} {d : DataW H}, (DataW.weightsEach P ts ds).all (· ≤ reachBytes) = true → ts[j]? = some t → ds[j]? = some d → (d.weights P t).all (· ≤ reachBytes) = true
  | [], _, _, _, _, _, ht, _ => by simp at ht
  | _ :: _, [], _, _, _, _, _, hd => by simp at hd
  | t :: ts, d :: ds, 0, _, _, h, ht, hd => by
    simp at ht hd; subst ht hd
    rw [DataW.weightsEach] at h
    exact (all_left h).1
  | t :: ts, d :: ds, j + 1, _, _, h, ht, hd => by
    rw [DataW.weightsEach] at h
    exact weightsEach_get (all_left h).2 (by simpa using ht) (by simpa using hd)
/-- A law's call, out of its function's spec. -/
theorem law_calls {f : FuncId} {p : PT} (hp : SpecOk P f p) {vals : List Value} {args : List V1} (hargs : All2 (RelV1 W (InW W) []) args vals) (h : p args [] fun res _ => res = [.one (.bool true)]) :
    Calls P f vals.toArray W fun e W' => e = .returned (.bool true) ∧ Below W.heap.size W W' := by
  refine Calls.mono (hp args [] _ h W (InW W) [] vals hargs ⟨trivial, fun i j v u g hi => by simp at hi, fun v g hv => by simp at hv, fun g hg => hg, fun v g hv => by simp at hv⟩) fun e W' he => ?_
  cases e with
  | returned v =>
    obtain ⟨res, h', Ok', β', rfl, hret, hrel⟩ := he
    have hv : v = .bool true := hret
    exact ⟨by rw [hv], hrel.fr.os, hrel.fr.tape, hrel.fr.output, hrel.fr.size, fun g hg => hrel.fr.block g ⟨hg, fun v hv => by simp at hv⟩⟩
  | _ => exact he.elim
end
end Go.AM
namespace Go.AM
open Go.Proofs
theorem law6 (l : Lad) (st : Sta) (ins : List (List Bool)) (hl : wideL l) (_ : SzK k26 st) (hi : SzK kIns ins) {Q : QT} (h : Q [.one (.bool true)] []) : F6 l st ins Q := ⟨⟨hl, Nat.le_trans hi.1 (by omega)⟩, h⟩
end Go.AM
