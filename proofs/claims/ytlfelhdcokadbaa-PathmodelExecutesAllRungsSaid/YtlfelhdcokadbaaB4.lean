/- Functions of the program: images, sizes, states. Conditions: none. -/
import Derived.Test.YtlfelhdcokadbaaSeal
import Derived.Test.YtlfelhdcokadbaaTk
import Derived.Test.YtlfelhdcokadbaaB1
import Derived.Test.YtlfelhdcokadbaaB2
set_option linter.all false
namespace Go.AM
open Go.Proofs
abbrev orow (l : List Bool) : Ob := .row 4 .bool l
/-- slices.Clone -/
def F40 (l : List Bool) (Q : QT) : Prop := l.length ≤ 1000000000000 ∧ Q [.one (.own 0)] [orow l]
def sp40 : PT := S1 kbs F40
-- f40 "slices.Clone[[]bool,bool]" ['25'] -> ['25']
def A40 : Ann := []
def E40 : Env := []
def I40 (p0 : ((.slice 4 .bool) : K).ty) : List V1 := [nfK (.slice 4 .bool) p0]
def t40 (Q : List V1 → List Ob → Prop) (p0 : K.ty (K.slice (4 : TypeId) K.bool)) : Prop :=
  ∀ (b1 : Bool), (b1 = true → p0 = []) → brP b1 (Q [V1.one (Lf.own (0 : Nat))] [Ob.row (4 : TypeId) K.bool []]) (room tt (4 : TypeId) (List.length (List.replicate (0 : Nat) (K.dflt K.bool)) + List.length p0) ∧ Q [V1.one (Lf.own (0 : Nat))] [Ob.row (4 : TypeId) K.bool (List.replicate (0 : Nat) (K.dflt K.bool) ++ p0)])
theorem t40_mono {Q : List V1 → List Ob → Prop} {Q' : List V1 → List Ob → Prop} (hq : ∀ r h, Q r h → Q' r h) (p0 : K.ty (K.slice (4 : TypeId) K.bool)) :
    t40 Q p0 → t40 Q' p0 :=
  fun hh x => ap (hh x) (fun hh x => ap (hh x) (brM (hq _ _) (andM (id) (hq _ _))))
theorem t40_eq (Q : List V1 → List Ob → Prop) (p0 : K.ty (K.slice (4 : TypeId) K.bool)) :
    t40 Q p0 = (afun tt E40 A40 Try.f40 (I40 p0) [] Q) := by kernel_rfl
def H40 (Q : List V1 → List Ob → Prop) (p0 : K.ty (K.slice (4 : TypeId) K.bool)) : Prop := t40 Q p0
theorem ok40 (Q : List V1 → List Ob → Prop) (p0 : K.ty (K.slice (4 : TypeId) K.bool)) (h : H40 Q p0) : Of (afun tt E40 A40 Try.f40 (I40 p0) [] Q) :=
  kcO (t40_eq Q p0) (t40_mono (fun _ _ h => h) p0 h)
theorem env40 : EnvOk Try.prog E40 := .nil
theorem room4 {n : Nat} (h : n ≤ 1000000000000) : room tt 4 n := by
  show n * 1 ≤ 140737488355328; omega
theorem spec40 : SpecOk Try.prog 40 sp40 := S1.ok tt_ok mixed env40 Try.func40 fun x Q h => ok40 Q x <| by
  obtain ⟨h1, h2⟩ := h
  intro b hb
  refine brP_intro (fun c => ?_) (fun c => ?_)
  · rw [hb c] at h2; exact h2
  · exact ⟨room4 (by simpa using h1), h2⟩
/-- image.Set -/
def setI (l : List Bool) (n : Int) (v : Bool) : List Bool × Int := bif isIn l.length n then (l.set n.toNat v, 0) else ([], 3)
def F71 (l : List Bool) (n : Int) (v : Bool) (Q : QT) : Prop := l.length ≤ 1000000000000 ∧ Q [.one (.own 0), .one (.int .i64 (setI l n v).2)] [orow (setI l n v).1]
def sp71 : PT := S3 kbs ki .bool F71
-- f71 "busbar/image.Set" ['25', '3', '4'] -> ['25', '32']
def A71 : Ann := []
def E71 : Env := [(75, sp75)]
def I71 (p0 : ((.slice 4 .bool) : K).ty) (p1 : ((.int .i64) : K).ty) (p2 : (.bool : K).ty) : List V1 := [nfK (.slice 4 .bool) p0, nfK (.int .i64) p1, nfK .bool p2]
def t71 (Q : List V1 → List Ob → Prop) (p0 : K.ty (K.slice (4 : TypeId) K.bool)) (p1 : K.ty (K.int IntKind.i64)) (p2 : K.ty K.bool) : Prop :=
  brP (!isIn (List.length p0) p1) (Q [V1.one (Lf.own (0 : Nat)), V1.one (Lf.int IntKind.i64 (3 : Int))] [Ob.row (4 : TypeId) K.bool []]) (((0 : Int) ≤ (↑(List.length p0) : Int) ∧ (↑(List.length p0) : Int) ≤ (↑(List.length p0) : Int) ∧ (↑(List.length p0) : Int) ≤ (17592186044416 : Int)) ∧ room tt (4 : TypeId) (Int.toNat (↑(List.length p0) : Int)) ∧ bound p1 (List.length (List.take (List.length (List.replicate (Int.toNat (↑(List.length p0) : Int)) (K.dflt K.bool))) p0 ++ List.drop (List.length p0) (List.replicate (Int.toNat (↑(List.length p0) : Int)) (K.dflt K.bool)))) ∧ Q [V1.one (Lf.own (0 : Nat)), V1.one (Lf.int IntKind.i64 (0 : Int))] [Ob.row (4 : TypeId) K.bool (List.set (List.take (List.length (List.replicate (Int.toNat (↑(List.length p0) : Int)) (K.dflt K.bool))) p0 ++ List.drop (List.length p0) (List.replicate (Int.toNat (↑(List.length p0) : Int)) (K.dflt K.bool))) (Int.toNat p1) p2)])
theorem t71_mono {Q : List V1 → List Ob → Prop} {Q' : List V1 → List Ob → Prop} (hq : ∀ r h, Q r h → Q' r h) (p0 : K.ty (K.slice (4 : TypeId) K.bool)) (p1 : K.ty (K.int IntKind.i64)) (p2 : K.ty K.bool) :
    t71 Q p0 p1 p2 → t71 Q' p0 p1 p2 :=
  brM (hq _ _) (andM (andM (id) (andM (id) (id))) (andM (id) (andM (id) (hq _ _))))
theorem t71_eq (Q : List V1 → List Ob → Prop) (p0 : K.ty (K.slice (4 : TypeId) K.bool)) (p1 : K.ty (K.int IntKind.i64)) (p2 : K.ty K.bool) :
    t71 Q p0 p1 p2 = (afun tt E71 A71 Try.f71 (I71 p0 p1 p2) [] Q) := by kernel_rfl
def H71 (Q : List V1 → List Ob → Prop) (p0 : K.ty (K.slice (4 : TypeId) K.bool)) (p1 : K.ty (K.int IntKind.i64)) (p2 : K.ty K.bool) : Prop := t71 Q p0 p1 p2
theorem ok71 (Q : List V1 → List Ob → Prop) (p0 : K.ty (K.slice (4 : TypeId) K.bool)) (p1 : K.ty (K.int IntKind.i64)) (p2 : K.ty K.bool) (h : H71 Q p0 p1 p2) : Of (afun tt E71 A71 Try.f71 (I71 p0 p1 p2) [] Q) :=
  kcO (t71_eq Q p0 p1 p2) (t71_mono (fun _ _ h => h) p0 p1 p2 h)
theorem env71 : EnvOk Try.prog E71 := .cons spec75 (by kernel_rfl) <| .nil
theorem spec71 : SpecOk Try.prog 71 sp71 := S3.ok tt_ok mixed env71 Try.func71 fun l n v Q h => ok71 Q l n v <| by
  obtain ⟨h1, h2⟩ := h
  refine brP_intro (fun c => ?_) (fun c => ?_)
  · have c : isIn l.length n = false := by simpa using c
    simpa [setI, c] using h2
  · have c : isIn l.length n = true := by simpa using c
    have e : List.take l.length l ++ List.drop l.length (List.replicate l.length (K.dflt .bool)) = l := by simp
    refine ⟨⟨by omega, by omega, by omega⟩, room4 (by simpa using h1), ?_, ?_⟩
    · simp only [List.length_replicate, Int.toNat_natCast, e]; exact isIn_iff.1 c
    · simp only [List.length_replicate, Int.toNat_natCast, e]; simpa [setI, c] using h2
/-- addr.CheckSize -/
def checkSize (s : k59.ty) : Int := bif within s.2.2.2 16384 && within s.1 256 && within s.2.1 256 && within s.2.2.1 256 then 0 else 3
def F35 (s : k59.ty) (Q : QT) : Prop := Q [.one (.int .i64 (checkSize s))] []
def sp35 : PT := S1 k59 F35
-- f35 "busbar/addr.CheckSize" ['60'] -> ['32']
def A35 : Ann := []
def E35 : Env := [(52, sp52)]
def I35 (p0 : (k59 : K).ty) : List V1 := [nfK k59 p0]
def t35 (Q : List V1 → List Ob → Prop) (p0 : K.ty k59) : Prop :=
  brP (!within p0.snd.snd.snd (16384 : Int)) (Q [V1.one (Lf.int IntKind.i64 (3 : Int))] []) (brP (!within p0.fst (256 : Int)) (Q [V1.one (Lf.int IntKind.i64 (3 : Int))] []) (brP (!within p0.snd.fst (256 : Int)) (Q [V1.one (Lf.int IntKind.i64 (3 : Int))] []) (brP (!within p0.snd.snd.fst (256 : Int)) (Q [V1.one (Lf.int IntKind.i64 (3 : Int))] []) (Q [V1.one (Lf.int IntKind.i64 (0 : Int))] []))))
theorem t35_mono {Q : List V1 → List Ob → Prop} {Q' : List V1 → List Ob → Prop} (hq : ∀ r h, Q r h → Q' r h) (p0 : K.ty k59) :
    t35 Q p0 → t35 Q' p0 :=
  brM (hq _ _) (brM (hq _ _) (brM (hq _ _) (brM (hq _ _) (hq _ _))))
theorem t35_eq (Q : List V1 → List Ob → Prop) (p0 : K.ty k59) :
    t35 Q p0 = (afun tt E35 A35 Try.f35 (I35 p0) [] Q) := by kernel_rfl
def H35 (Q : List V1 → List Ob → Prop) (p0 : K.ty k59) : Prop := t35 Q p0
theorem ok35 (Q : List V1 → List Ob → Prop) (p0 : K.ty k59) (h : H35 Q p0) : Of (afun tt E35 A35 Try.f35 (I35 p0) [] Q) :=
  kcO (t35_eq Q p0) (t35_mono (fun _ _ h => h) p0 h)
theorem env35 : EnvOk Try.prog E35 := .cons spec52 (by kernel_rfl) <| .nil
theorem spec35 : SpecOk Try.prog 35 sp35 := S1.ok tt_ok mixed env35 Try.func35 fun s Q h => ok35 Q s <| by
  unfold F35 checkSize at h
  unfold H35 t35
  repeat' first | refine brP_intro (fun c => ?_) (fun c => ?_) | (simp_all; done)
/-- printer.sizes -/
def sizesOf (l : k23.ty) : k59.ty := (l.1, l.2.1, l.2.2.1, 0)
def F34 (l : k23.ty) (Q : QT) : Prop := Q [nfK k59 (sizesOf l)] []
def sp34 : PT := S1 k23 F34
-- f34 "busbar/printer.sizes" ['24'] -> ['60']
def A34 : Ann := []
def E34 : Env := []
def I34 (p0 : (k23 : K).ty) : List V1 := [nfK k23 p0]
def t34 (Q : List V1 → List Ob → Prop) (p0 : K.ty k23) : Prop :=
  Q [V1.agg [Lf.int IntKind.i64 p0.fst, Lf.int IntKind.i64 p0.snd.fst, Lf.int IntKind.i64 p0.snd.snd.fst, Lf.int IntKind.i64 (0 : Int)]] []
theorem t34_mono {Q : List V1 → List Ob → Prop} {Q' : List V1 → List Ob → Prop} (hq : ∀ r h, Q r h → Q' r h) (p0 : K.ty k23) :
    t34 Q p0 → t34 Q' p0 :=
  hq _ _
theorem t34_eq (Q : List V1 → List Ob → Prop) (p0 : K.ty k23) :
    t34 Q p0 = (afun tt E34 A34 Try.f34 (I34 p0) [] Q) := by kernel_rfl
def H34 (Q : List V1 → List Ob → Prop) (p0 : K.ty k23) : Prop := t34 Q p0
theorem ok34 (Q : List V1 → List Ob → Prop) (p0 : K.ty k23) (h : H34 Q p0) : Of (afun tt E34 A34 Try.f34 (I34 p0) [] Q) :=
  kcO (t34_eq Q p0) (t34_mono (fun _ _ h => h) p0 h)
theorem env34 : EnvOk Try.prog E34 := .nil
theorem spec34 : SpecOk Try.prog 34 sp34 := S1.ok tt_ok mixed env34 Try.func34 fun l Q h => ok34 Q l h
/-- state.images -/
def F39 (s : k26.ty) (Q : QT) : Prop := Q [.agg [.sl 4 .bool s.1, .sl 4 .bool s.2.1, .sl 4 .bool s.2.2]] []
def sp39 : PT := S1 k26 F39
-- f39 "busbar/state.images" ['27'] -> ['83']
def A39 : Ann := []
def E39 : Env := []
def I39 (p0 : (k26 : K).ty) : List V1 := [nfK k26 p0]
def t39 (Q : List V1 → List Ob → Prop) (p0 : K.ty k26) : Prop :=
  Q [V1.agg [Lf.sl (4 : TypeId) K.bool p0.fst, Lf.sl (4 : TypeId) K.bool p0.snd.fst, Lf.sl (4 : TypeId) K.bool p0.snd.snd]] []
theorem t39_mono {Q : List V1 → List Ob → Prop} {Q' : List V1 → List Ob → Prop} (hq : ∀ r h, Q r h → Q' r h) (p0 : K.ty k26) :
    t39 Q p0 → t39 Q' p0 :=
  hq _ _
theorem t39_eq (Q : List V1 → List Ob → Prop) (p0 : K.ty k26) :
    t39 Q p0 = (afun tt E39 A39 Try.f39 (I39 p0) [] Q) := by kernel_rfl
def H39 (Q : List V1 → List Ob → Prop) (p0 : K.ty k26) : Prop := t39 Q p0
theorem ok39 (Q : List V1 → List Ob → Prop) (p0 : K.ty k26) (h : H39 Q p0) : Of (afun tt E39 A39 Try.f39 (I39 p0) [] Q) :=
  kcO (t39_eq Q p0) (t39_mono (fun _ _ h => h) p0 h)
theorem env39 : EnvOk Try.prog E39 := .nil
theorem spec39 : SpecOk Try.prog 39 sp39 := S1.ok tt_ok mixed env39 Try.func39 fun l Q h => ok39 Q l h
/-- What a state's images may hold. -/
def small (s : k26.ty) : Prop := s.1.length ≤ 1000000000000 ∧ s.2.1.length ≤ 1000000000000 ∧ s.2.2.length ≤ 1000000000000
/-- state.Clone -/
def F25 (s : k26.ty) (Q : QT) : Prop := small s ∧ Q [.agg [.own 0, .own 1, .own 2]] [orow s.1, orow s.2.1, orow s.2.2]
def sp25 : PT := S1 k26 F25
-- f25 "busbar/state.Clone" ['27'] -> ['27']
def A25 : Ann := []
def E25 : Env := [(40, sp40)]
def I25 (p0 : (k26 : K).ty) : List V1 := [nfK k26 p0]
def t25 (Q : List V1 → List Ob → Prop) (p0 : K.ty k26) : Prop :=
  List.length p0.fst ≤ (1000000000000 : Nat) ∧ List.length p0.snd.fst ≤ (1000000000000 : Nat) ∧ List.length p0.snd.snd ≤ (1000000000000 : Nat) ∧ Q [V1.agg [Lf.own (0 : Nat), Lf.own ((0 : Nat) + (1 : Nat)), Lf.own ((0 : Nat) + (1 : Nat) + (1 : Nat))]] [Ob.row (4 : TypeId) K.bool p0.fst, Ob.row (4 : TypeId) K.bool p0.snd.fst, Ob.row (4 : TypeId) K.bool p0.snd.snd]
theorem t25_mono {Q : List V1 → List Ob → Prop} {Q' : List V1 → List Ob → Prop} (hq : ∀ r h, Q r h → Q' r h) (p0 : K.ty k26) :
    t25 Q p0 → t25 Q' p0 :=
  andM (id) (andM (id) (andM (id) (hq _ _)))
theorem t25_eq (Q : List V1 → List Ob → Prop) (p0 : K.ty k26) :
    t25 Q p0 = (afun tt E25 A25 Try.f25 (I25 p0) [] Q) := by kernel_rfl
def H25 (Q : List V1 → List Ob → Prop) (p0 : K.ty k26) : Prop := t25 Q p0
theorem ok25 (Q : List V1 → List Ob → Prop) (p0 : K.ty k26) (h : H25 Q p0) : Of (afun tt E25 A25 Try.f25 (I25 p0) [] Q) :=
  kcO (t25_eq Q p0) (t25_mono (fun _ _ h => h) p0 h)
theorem env25 : EnvOk Try.prog E25 := .cons spec40 (by kernel_rfl) <| .nil
theorem spec25 : SpecOk Try.prog 25 sp25 := S1.ok tt_ok mixed env25 Try.func25 fun l Q h => ok25 Q l ⟨h.1.1, h.1.2.1, h.1.2.2, h.2⟩
/-- the same, its result only read from here on -/
def F25s (s : k26.ty) (Q : QT) : Prop := small s ∧ Q [nfK k26 s] []
def sp25s : PT := S1 k26 F25s
theorem spec25s : SpecOk Try.prog 25 sp25s := S1.okS tt_ok mixed [k26] env25 Try.func25 fun l Q h => ok25 _ l ⟨h.1.1, h.1.2.1, h.1.2.2, h.2⟩
/-- lex.letter -/
def letter (c : Int) : Bool := bif decide (97 ≤ c) && decide (c ≤ 122) then true else decide (65 ≤ c) && decide (c ≤ 90)
def F68 (c : Int) (Q : QT) : Prop := Q [.one (.bool (letter c))] []
def sp68 : PT := S1 (.int .i32) F68
-- f68 "busbar/lex.letter" ['21'] -> ['4']
def A68 : Ann := []
def E68 : Env := []
def I68 (p0 : ((.int .i32) : K).ty) : List V1 := [nfK (.int .i32) p0]
def t68 (Q : List V1 → List Ob → Prop) (p0 : K.ty (K.int IntKind.i32)) : Prop :=
  brP (decide (p0 ≥ (97 : Int))) (brP (decide (p0 ≤ (122 : Int))) (Q [V1.one (Lf.bool true)] []) (brP (decide (p0 ≥ (65 : Int))) (Q [V1.one (Lf.bool (decide (p0 ≤ (90 : Int))))] []) (Q [V1.one (Lf.bool false)] []))) (brP (decide (p0 ≥ (65 : Int))) (Q [V1.one (Lf.bool (decide (p0 ≤ (90 : Int))))] []) (Q [V1.one (Lf.bool false)] []))
theorem t68_mono {Q : List V1 → List Ob → Prop} {Q' : List V1 → List Ob → Prop} (hq : ∀ r h, Q r h → Q' r h) (p0 : K.ty (K.int IntKind.i32)) :
    t68 Q p0 → t68 Q' p0 :=
  brM (brM (hq _ _) (brM (hq _ _) (hq _ _))) (brM (hq _ _) (hq _ _))
theorem t68_eq (Q : List V1 → List Ob → Prop) (p0 : K.ty (K.int IntKind.i32)) :
    t68 Q p0 = (afun tt E68 A68 Try.f68 (I68 p0) [] Q) := by kernel_rfl
def H68 (Q : List V1 → List Ob → Prop) (p0 : K.ty (K.int IntKind.i32)) : Prop := t68 Q p0
theorem ok68 (Q : List V1 → List Ob → Prop) (p0 : K.ty (K.int IntKind.i32)) (h : H68 Q p0) : Of (afun tt E68 A68 Try.f68 (I68 p0) [] Q) :=
  kcO (t68_eq Q p0) (t68_mono (fun _ _ h => h) p0 h)
theorem env68 : EnvOk Try.prog E68 := .nil
theorem spec68 : SpecOk Try.prog 68 sp68 := S1.ok tt_ok mixed env68 Try.func68 fun s Q h => ok68 Q s <| by
  unfold F68 letter at h
  unfold H68 t68
  repeat' first | refine brP_intro (fun c => ?_) (fun c => ?_) | (simp_all; done)
/-- lex.IsName -/
def nameCh (first : Bool) (c : Int) : Bool := letter c || (!first && (c == 95 || (decide (48 ≤ c) && decide (c ≤ 57))))
def isName (w : ByteArray) : Bool := bif w.size == 0 then false else bif decide (16 < w.size) then false else (List.range w.size).all fun i => nameCh (i == 0) (byteAt w i)
def F53 (w : ByteArray) (Q : QT) : Prop := Q [.one (.bool (isName w))] []
def sp53 : PT := S1 .str F53
-- f53 "busbar/lex.IsName" ['9'] -> ['4']
def A53 : Ann := [(0, [13], [], [2])]
def E53 : Env := [(68, sp68)]
def I53 (p0 : (.str : K).ty) : List V1 := [nfK .str p0]
noncomputable def L53_0 : Code := Code.a (Code.a (Code.b (Code.a (Code.b (Code.b (Func.code Try.f53))))))
def S53_0 (s0 : ByteArray) (p0 : Nat) : St := sp (37 : Nat) [((13 : Nat), V.v (V1.one (Lf.ptr (nat_lit 0) (nat_lit 0))))] [Ob.iter s0 p0]
def X53_0_0 (b2 : Bool) : St := sp (37 : Nat) [((2 : Nat), V.v (V1.one (Lf.bool b2)))] []
def X53_0_1 : St := sp (37 : Nat) [] []
def t53_0 (again : ByteArray → Nat → Prop) (R0 : Bool → Prop) (R1 : Prop) (s0 : ByteArray) (p0 : Nat) : Prop :=
  brP (decide (p0 < ByteArray.size s0)) (brP (lowB s0 p0) (brP (!letter (byteAt s0 p0)) (brP ((↑p0 : Int) == (0 : Int)) (R0 false) (brP (byteAt s0 p0 != (95 : Int)) (brP (decide (byteAt s0 p0 < (48 : Int))) (R0 false) (brP (decide (byteAt s0 p0 > (57 : Int))) (R0 false) (again s0 (p0 + (1 : Nat))))) (again s0 (p0 + (1 : Nat))))) (again s0 (p0 + (1 : Nat)))) (∀ (r2 : Int), (128 : Int) ≤ r2 → ∀ (m3 : Nat), brP (!letter r2) (brP ((↑p0 : Int) == (0 : Int)) (R0 false) (brP (r2 != (95 : Int)) (brP (decide (r2 < (48 : Int))) (R0 false) (brP (decide (r2 > (57 : Int))) (R0 false) (again s0 (p0 + m3)))) (again s0 (p0 + m3)))) (again s0 (p0 + m3)))) R1
theorem t53_0_mono {again : ByteArray → Nat → Prop} {R0 : Bool → Prop} {R1 : Prop} {again' : ByteArray → Nat → Prop} {R0' : Bool → Prop} {R1' : Prop} (ha : ∀ s0 p0, again s0 p0 → again' s0 p0) (hr0 : ∀ b2, R0 b2 → R0' b2) (hr1 :  R1 → R1') (s0 : ByteArray) (p0 : Nat) :
    t53_0 again R0 R1 s0 p0 → t53_0 again' R0' R1' s0 p0 :=
  brM (brM (brM (brM (hr0 _) (brM (brM (hr0 _) (brM (hr0 _) (ha _ _))) (ha _ _))) (ha _ _)) (fun hh x => ap (hh x) (fun hh x => ap (hh x) (fun hh x => ap (hh x) (brM (brM (hr0 _) (brM (brM (hr0 _) (brM (hr0 _) (ha _ _))) (ha _ _))) (ha _ _)))))) (hr1)
theorem t53_0_eq (n : Nat) (Q : Ex → St → Prop) (s0 : ByteArray) (p0 : Nat) :
    t53_0 (fun s0 p0 => loopP (awp tt E53 A53 L53_0 0) ([(13 : Nat)], [], [(2 : Nat)]) n (S53_0 s0 p0) Q) (fun b2 => Q (Ex.ret) (X53_0_0 b2)) ( Q (Ex.exit (nat_lit 0)) (X53_0_1)) s0 p0 = (loopP (awp tt E53 A53 L53_0 0) ([(13 : Nat)], [], [(2 : Nat)]) (n + 1) (S53_0 s0 p0) Q) := by kernel_rfl
def G53_0 (R0 : Bool → Prop) (R1 : Prop) : Nat → ByteArray → Nat → Prop
  | 0, _, _ => False
  | n + 1, s0, p0 => t53_0 (G53_0 R0 R1 n) R0 R1 s0 p0
theorem T53_0 {R0 : Bool → Prop} {R1 : Prop} (Q : Ex → St → Prop) (hr0 : ∀ b2, R0 b2 → Of (Q (Ex.ret) (X53_0_0 b2))) (hr1 :  R1 → Of (Q (Ex.exit (nat_lit 0)) (X53_0_1))) : ∀ (n : Nat) (s0 : ByteArray) (p0 : Nat), G53_0 R0 R1 n s0 p0 → Of (loopP (awp tt E53 A53 L53_0 0) ([(13 : Nat)], [], [(2 : Nat)]) n (S53_0 s0 p0) Q) := by
  intro n
  induction n with
  | zero => intro s0 p0 h; exact h.elim
  | succ n ih =>
    intro s0 p0 h
    exact kcO (t53_0_eq n Q s0 p0) (t53_0_mono (fun _ _ h => (ih _ _ h).out) (fun _ h => (hr0 _ h).out) (fun h => (hr1 h).out) s0 p0 h)
def t53 (Q : List V1 → List Ob → Prop) (lp0 : K.ty K.str → Prop) (p0 : K.ty K.str) : Prop :=
  brP (ByteArray.toList p0 == ByteArray.toList (ByteArray.mk #[])) (Q [V1.one (Lf.bool false)] []) (brP (decide ((↑(ByteArray.size p0) : Int) > (16 : Int))) (Q [V1.one (Lf.bool false)] []) (lp0 p0))
theorem t53_mono {Q : List V1 → List Ob → Prop} {Q' : List V1 → List Ob → Prop} {lp0 : K.ty K.str → Prop} {lp0' : K.ty K.str → Prop} (hq : ∀ r h, Q r h → Q' r h) (hlp0 : ∀ p0, lp0 p0 → lp0' p0) (p0 : K.ty K.str) :
    t53 Q lp0 p0 → t53 Q' lp0' p0 :=
  brM (hq _ _) (brM (hq _ _) (hlp0 _))
theorem t53_eq (Q : List V1 → List Ob → Prop) (p0 : K.ty K.str) :
    t53 Q (fun p0 => ∃ m, loopP (awp tt E53 A53 L53_0 0) ([(13 : Nat)], [], [(2 : Nat)]) m (S53_0 (p0) ((0 : Nat))) (blkC (0 : Nat) (seqC (awp tt E53 A53 (Code.b (Code.b (Code.b (Func.code Try.f53)))) (0 : Nat)) (topC tt Try.f53 0 Q)))) p0 = (afun tt E53 A53 Try.f53 (I53 p0) [] Q) := by kernel_rfl
def t53c0x1 (Q : List V1 → List Ob → Prop) (p0 : K.ty K.str) : Prop :=
  Q [V1.one (Lf.bool true)] []
theorem t53c0x1_mono {Q : List V1 → List Ob → Prop} {Q' : List V1 → List Ob → Prop} (hq : ∀ r h, Q r h → Q' r h) (p0 : K.ty K.str) :
    t53c0x1 Q p0 → t53c0x1 Q' p0 :=
  hq _ _
theorem t53c0x1_eq (Q : List V1 → List Ob → Prop) (p0 : K.ty K.str) :
    t53c0x1 Q p0 = ((blkC (0 : Nat) (seqC (awp tt E53 A53 (Code.b (Code.b (Code.b (Func.code Try.f53)))) (0 : Nat)) (topC tt Try.f53 0 Q))) (Ex.exit (nat_lit 0)) (X53_0_1)) := by kernel_rfl
def t53c0x0 (Q : List V1 → List Ob → Prop) (p0 : K.ty K.str) (b2e1 : Bool) : Prop :=
  Q [V1.one (Lf.bool b2e1)] []
theorem t53c0x0_mono {Q : List V1 → List Ob → Prop} {Q' : List V1 → List Ob → Prop} (hq : ∀ r h, Q r h → Q' r h) (p0 : K.ty K.str) (b2e1 : Bool) :
    t53c0x0 Q p0 b2e1 → t53c0x0 Q' p0 b2e1 :=
  hq _ _
theorem t53c0x0_eq (Q : List V1 → List Ob → Prop) (p0 : K.ty K.str) (b2e1 : Bool) :
    t53c0x0 Q p0 b2e1 = ((blkC (0 : Nat) (seqC (awp tt E53 A53 (Code.b (Code.b (Code.b (Func.code Try.f53)))) (0 : Nat)) (topC tt Try.f53 0 Q))) (Ex.ret) (X53_0_0 b2e1)) := by kernel_rfl
def H53 (Q : List V1 → List Ob → Prop) (p0 : K.ty K.str) : Prop := t53 Q (fun p0 => ∃ m, G53_0 (fun b2e1 => t53c0x0 Q p0 b2e1) ( t53c0x1 Q p0) m (p0) ((0 : Nat))) p0
theorem ok53 (Q : List V1 → List Ob → Prop) (p0 : K.ty K.str) (h : H53 Q p0) : Of (afun tt E53 A53 Try.f53 (I53 p0) [] Q) :=
  kcO (t53_eq Q p0) (t53_mono (fun _ _ h => h) (fun p0 ⟨m, h⟩ => ⟨m, (T53_0 _ (fun b2e1 h => kcO (t53c0x0_eq _ _ _) (t53c0x0_mono (fun _ _ h => h) _ _ h)) (fun h => kcO (t53c0x1_eq _ _) (t53c0x1_mono (fun _ _ h => h) _ h)) m _ _ h).out⟩) p0 h)
theorem env53 : EnvOk Try.prog E53 := .cons spec68 (by kernel_rfl) <| .nil
theorem letter_high {r : Int} (h : 128 ≤ r) : letter r = false := by
  simp [letter]; omega
theorem nameCh_high {r : Int} {b : Bool} (h : 128 ≤ r) : nameCh b r = false := by
  simp [nameCh, letter_high h]; omega
/-- A walk over a name: what is left. -/
def nameFrom (w : ByteArray) (i n : Nat) : Bool := (List.range' i n).all fun i => nameCh (i == 0) (byteAt w i)
theorem nameFrom_succ (w : ByteArray) (i n : Nat) : nameFrom w i (n + 1) = (nameCh (i == 0) (byteAt w i) && nameFrom w (i + 1) n) := by
  simp [nameFrom, List.range'_succ]
theorem loop53 (w : ByteArray) (R0 : Bool → Prop) (R1 : Prop) : ∀ n k i, k < n → i + k = w.size → (nameFrom w i k = true → R1) → (nameFrom w i k = false → R0 false) → G53_0 R0 R1 n w i := by
  intro n
  induction n with
  | zero => intro k i h; omega
  | succ n ih =>
    intro k i hk hi h1 h0
    refine brP_intro (fun c => ?_) (fun c => ?_)
    · have c : i < w.size := by simpa using c
      cases k with
      | zero => omega
      | succ k =>
        rw [nameFrom_succ] at h1 h0
        refine brP_intro (fun d => ?_) (fun d => ?_)
        · have key : nameCh (i == 0) (byteAt w i) = true → G53_0 R0 R1 n w (i + 1) := fun hc => ih k (i + 1) (by omega) (by omega) (fun h => h1 (by simp [hc, h])) (fun h => h0 (by simp [h]))
          have bad : nameCh (i == 0) (byteAt w i) = false → R0 false := fun hc => h0 (by simp [hc])
          unfold nameCh at key bad
          refine brP_intro (fun e => ?_) (fun e => key (by simp at e; simp [e]))
          refine brP_intro (fun f => bad ?_) (fun f => ?_)
          · simp at e f; subst f; simp [e]
          · refine brP_intro (fun g => ?_) (fun g => key ?_)
            · refine brP_intro (fun h => bad ?_) (fun h => ?_)
              · simp at e f g h; simp [e, f, g]; omega
              · refine brP_intro (fun j => bad ?_) (fun j => key ?_)
                · simp at e f g h j; simp [e, f, g]; omega
                · simp at e f g h j; simp [e, f, g]; omega
            · simp at e f g; simp [e, f, g]
        · have d : 128 ≤ byteAt w i := by
            have : ¬ byteAt w i < 128 := fun h => by rw [lowB_iff.2 h] at d; cases d
            omega
          intro r hr m
          have bad : R0 false := h0 (by simp [nameCh_high d])
          refine brP_intro (fun e => ?_) (fun e => by simp [letter_high hr] at e)
          refine brP_intro (fun f => bad) (fun f => ?_)
          refine brP_intro (fun g => ?_) (fun g => by simp at g; omega)
          refine brP_intro (fun h => bad) (fun h => ?_)
          refine brP_intro (fun j => bad) (fun j => by simp at j; omega)
    · have c : ¬ i < w.size := by simpa using c
      obtain rfl : k = 0 := by omega
      exact h1 rfl
theorem strEq (x y : ByteArray) : (x.toList == y.toList) = decide (x = y) := by
  rw [Bool.eq_iff_iff, Lib.bytes_beq_iff, decide_eq_true_iff]
theorem size_zero_iff (w : ByteArray) : w = ByteArray.mk #[] ↔ w.size = 0 :=
  ⟨fun h => by rw [h]; rfl, fun h => bytes_nil h⟩
theorem spec53 : SpecOk Try.prog 53 sp53 := S1.ok tt_ok mixed env53 Try.func53 fun w Q h => ok53 Q w <| by
  unfold F53 isName at h
  refine brP_intro (fun c => ?_) (fun c => ?_)
  · rw [strEq] at c
    have c : w.size = 0 := (size_zero_iff w).1 (by simpa using c)
    simpa [c] using h
  · rw [strEq] at c
    have c : w.size ≠ 0 := fun h => by simp [(size_zero_iff w).2 h] at c
    refine brP_intro (fun d => ?_) (fun d => ?_)
    · have d : 16 < w.size := by simp at d; omega
      simpa [c, d] using h
    · have d : ¬ 16 < w.size := by simp at d; omega
      have c' : (w.size == 0) = false := by simpa using c
      simp only [c', d, decide_false, cond_false] at h
      rw [List.range_eq_range'] at h
      refine ⟨w.size + 1, loop53 w _ _ _ w.size 0 (by omega) (by omega) (fun e => ?_) (fun e => ?_)⟩
      · unfold nameFrom at e; rw [e] at h; exact h
      · unfold nameFrom at e; rw [e] at h; exact h
end Go.AM
