/- Functions of the program: equality of slices and states in the references, addresses. Conditions: none. -/
import Derived.Test.YtlfelhdcokadbaaSeal
import Derived.Test.YtlfelhdcokadbaaTk
import Derived.Test.YtlfelhdcokadbaaB1
import Derived.Test.YtlfelhdcokadbaaB2
set_option linter.all false
namespace Go.AM
open Go.Proofs
def F15 (x y : List Int) (Q : QT) : Prop := x.length ≤ 4611686018427387904 ∧ Q [.one (.bool (decide (x = y)))] []
def sp15 : PT := S2 ksi ksi F15
-- f15 "slices.Equal[[]int,int]" ['40', '40'] -> ['4']
def A15 : Ann := [(0, [0, 1, 12, 13], [], [4])]
def E15 : Env := []
def I15 (p0 : ((.slice 3 (.int .i64)) : K).ty) (p1 : ((.slice 3 (.int .i64)) : K).ty) : List V1 := [nfK (.slice 3 (.int .i64)) p0, nfK (.slice 3 (.int .i64)) p1]
noncomputable def L15_0 : Code := Code.a (Code.a (Code.b (Code.a (Code.b (Code.b (Func.code Try.f15))))))
def S15_0 (l0 : List (K.ty (K.int IntKind.i64))) (l1 : List (K.ty (K.int IntKind.i64))) (x12 : Int) (x13 : Int) : St := sp (26 : Nat) [((0 : Nat), V.v (V1.one (Lf.sl (3 : TypeId) (K.int IntKind.i64) l0))), ((1 : Nat), V.v (V1.one (Lf.sl (3 : TypeId) (K.int IntKind.i64) l1))), ((12 : Nat), V.v (V1.one (Lf.int IntKind.i64 x12))), ((13 : Nat), V.v (V1.one (Lf.int IntKind.i64 x13)))] []
def X15_0_0 (b4 : Bool) : St := sp (26 : Nat) [((4 : Nat), V.v (V1.one (Lf.bool b4)))] []
def X15_0_1 : St := sp (26 : Nat) [] []
def t15_0 (again : List (K.ty (K.int IntKind.i64)) → List (K.ty (K.int IntKind.i64)) → Int → Int → Prop) (R0 : Bool → Prop) (R1 : Prop) (l0 : List (K.ty (K.int IntKind.i64))) (l1 : List (K.ty (K.int IntKind.i64))) (x12 : Int) (x13 : Int) : Prop :=
  brP (decide (x13 < x12)) (bound x13 (List.length l0) ∧ bound x13 (List.length l1) ∧ brP (getE (K.int IntKind.i64) l0 x13 != getE (K.int IntKind.i64) l1 x13) (R0 false) (again l0 l1 x12 (IntKind.wrap IntKind.i64 (x13 + (1 : Int))))) R1
theorem t15_0_mono {again : List (K.ty (K.int IntKind.i64)) → List (K.ty (K.int IntKind.i64)) → Int → Int → Prop} {R0 : Bool → Prop} {R1 : Prop} {again' : List (K.ty (K.int IntKind.i64)) → List (K.ty (K.int IntKind.i64)) → Int → Int → Prop} {R0' : Bool → Prop} {R1' : Prop} (ha : ∀ l0 l1 x12 x13, again l0 l1 x12 x13 → again' l0 l1 x12 x13) (hr0 : ∀ b4, R0 b4 → R0' b4) (hr1 :  R1 → R1') (l0 : List (K.ty (K.int IntKind.i64))) (l1 : List (K.ty (K.int IntKind.i64))) (x12 : Int) (x13 : Int) :
    t15_0 again R0 R1 l0 l1 x12 x13 → t15_0 again' R0' R1' l0 l1 x12 x13 :=
  brM (andM (id) (andM (id) (brM (hr0 _) (ha _ _ _ _)))) (hr1)
theorem t15_0_eq (n : Nat) (Q : Ex → St → Prop) (l0 : List (K.ty (K.int IntKind.i64))) (l1 : List (K.ty (K.int IntKind.i64))) (x12 : Int) (x13 : Int) :
    t15_0 (fun l0 l1 x12 x13 => loopP (awp tt E15 A15 L15_0 0) ([(0 : Nat), (1 : Nat), (12 : Nat), (13 : Nat)], [], [(4 : Nat)]) n (S15_0 l0 l1 x12 x13) Q) (fun b4 => Q (Ex.ret) (X15_0_0 b4)) ( Q (Ex.exit (nat_lit 0)) (X15_0_1)) l0 l1 x12 x13 = (loopP (awp tt E15 A15 L15_0 0) ([(0 : Nat), (1 : Nat), (12 : Nat), (13 : Nat)], [], [(4 : Nat)]) (n + 1) (S15_0 l0 l1 x12 x13) Q) := by kernel_rfl
def G15_0 (R0 : Bool → Prop) (R1 : Prop) : Nat → List (K.ty (K.int IntKind.i64)) → List (K.ty (K.int IntKind.i64)) → Int → Int → Prop
  | 0, _, _, _, _ => False
  | n + 1, l0, l1, x12, x13 => t15_0 (G15_0 R0 R1 n) R0 R1 l0 l1 x12 x13
theorem T15_0 {R0 : Bool → Prop} {R1 : Prop} (Q : Ex → St → Prop) (hr0 : ∀ b4, R0 b4 → Of (Q (Ex.ret) (X15_0_0 b4))) (hr1 :  R1 → Of (Q (Ex.exit (nat_lit 0)) (X15_0_1))) : ∀ (n : Nat) (l0 : List (K.ty (K.int IntKind.i64))) (l1 : List (K.ty (K.int IntKind.i64))) (x12 : Int) (x13 : Int), G15_0 R0 R1 n l0 l1 x12 x13 → Of (loopP (awp tt E15 A15 L15_0 0) ([(0 : Nat), (1 : Nat), (12 : Nat), (13 : Nat)], [], [(4 : Nat)]) n (S15_0 l0 l1 x12 x13) Q) := by
  intro n
  induction n with
  | zero => intro l0 l1 x12 x13 h; exact h.elim
  | succ n ih =>
    intro l0 l1 x12 x13 h
    exact kcO (t15_0_eq n Q l0 l1 x12 x13) (t15_0_mono (fun _ _ _ _ h => (ih _ _ _ _ h).out) (fun _ h => (hr0 _ h).out) (fun h => (hr1 h).out) l0 l1 x12 x13 h)
def t15 (Q : List V1 → List Ob → Prop) (lp0 : K.ty (K.slice (3 : TypeId) (K.int IntKind.i64)) → K.ty (K.slice (3 : TypeId) (K.int IntKind.i64)) → Prop) (p0 : K.ty (K.slice (3 : TypeId) (K.int IntKind.i64))) (p1 : K.ty (K.slice (3 : TypeId) (K.int IntKind.i64))) : Prop :=
  brP ((↑(List.length p0) : Int) != (↑(List.length p1) : Int)) (Q [V1.one (Lf.bool false)] []) (lp0 p0 p1)
theorem t15_mono {Q : List V1 → List Ob → Prop} {Q' : List V1 → List Ob → Prop} {lp0 : K.ty (K.slice (3 : TypeId) (K.int IntKind.i64)) → K.ty (K.slice (3 : TypeId) (K.int IntKind.i64)) → Prop} {lp0' : K.ty (K.slice (3 : TypeId) (K.int IntKind.i64)) → K.ty (K.slice (3 : TypeId) (K.int IntKind.i64)) → Prop} (hq : ∀ r h, Q r h → Q' r h) (hlp0 : ∀ p0 p1, lp0 p0 p1 → lp0' p0 p1) (p0 : K.ty (K.slice (3 : TypeId) (K.int IntKind.i64))) (p1 : K.ty (K.slice (3 : TypeId) (K.int IntKind.i64))) :
    t15 Q lp0 p0 p1 → t15 Q' lp0' p0 p1 :=
  brM (hq _ _) (hlp0 _ _)
theorem t15_eq (Q : List V1 → List Ob → Prop) (p0 : K.ty (K.slice (3 : TypeId) (K.int IntKind.i64))) (p1 : K.ty (K.slice (3 : TypeId) (K.int IntKind.i64))) :
    t15 Q (fun p0 p1 => ∃ m, loopP (awp tt E15 A15 L15_0 0) ([(0 : Nat), (1 : Nat), (12 : Nat), (13 : Nat)], [], [(4 : Nat)]) m (S15_0 (p0) (p1) ((↑(List.length p0) : Int)) ((0 : Int))) (blkC (0 : Nat) (seqC (awp tt E15 A15 (Code.b (Code.b (Code.b (Func.code Try.f15)))) (0 : Nat)) (topC tt Try.f15 0 Q)))) p0 p1 = (afun tt E15 A15 Try.f15 (I15 p0 p1) [] Q) := by kernel_rfl
def t15c0x1 (Q : List V1 → List Ob → Prop) (p0 : K.ty (K.slice (3 : TypeId) (K.int IntKind.i64))) (p1 : K.ty (K.slice (3 : TypeId) (K.int IntKind.i64))) : Prop :=
  Q [V1.one (Lf.bool true)] []
theorem t15c0x1_mono {Q : List V1 → List Ob → Prop} {Q' : List V1 → List Ob → Prop} (hq : ∀ r h, Q r h → Q' r h) (p0 : K.ty (K.slice (3 : TypeId) (K.int IntKind.i64))) (p1 : K.ty (K.slice (3 : TypeId) (K.int IntKind.i64))) :
    t15c0x1 Q p0 p1 → t15c0x1 Q' p0 p1 :=
  hq _ _
theorem t15c0x1_eq (Q : List V1 → List Ob → Prop) (p0 : K.ty (K.slice (3 : TypeId) (K.int IntKind.i64))) (p1 : K.ty (K.slice (3 : TypeId) (K.int IntKind.i64))) :
    t15c0x1 Q p0 p1 = ((blkC (0 : Nat) (seqC (awp tt E15 A15 (Code.b (Code.b (Code.b (Func.code Try.f15)))) (0 : Nat)) (topC tt Try.f15 0 Q))) (Ex.exit (nat_lit 0)) (X15_0_1)) := by kernel_rfl
def t15c0x0 (Q : List V1 → List Ob → Prop) (p0 : K.ty (K.slice (3 : TypeId) (K.int IntKind.i64))) (p1 : K.ty (K.slice (3 : TypeId) (K.int IntKind.i64))) (b4e2 : Bool) : Prop :=
  Q [V1.one (Lf.bool b4e2)] []
theorem t15c0x0_mono {Q : List V1 → List Ob → Prop} {Q' : List V1 → List Ob → Prop} (hq : ∀ r h, Q r h → Q' r h) (p0 : K.ty (K.slice (3 : TypeId) (K.int IntKind.i64))) (p1 : K.ty (K.slice (3 : TypeId) (K.int IntKind.i64))) (b4e2 : Bool) :
    t15c0x0 Q p0 p1 b4e2 → t15c0x0 Q' p0 p1 b4e2 :=
  hq _ _
theorem t15c0x0_eq (Q : List V1 → List Ob → Prop) (p0 : K.ty (K.slice (3 : TypeId) (K.int IntKind.i64))) (p1 : K.ty (K.slice (3 : TypeId) (K.int IntKind.i64))) (b4e2 : Bool) :
    t15c0x0 Q p0 p1 b4e2 = ((blkC (0 : Nat) (seqC (awp tt E15 A15 (Code.b (Code.b (Code.b (Func.code Try.f15)))) (0 : Nat)) (topC tt Try.f15 0 Q))) (Ex.ret) (X15_0_0 b4e2)) := by kernel_rfl
def H15 (Q : List V1 → List Ob → Prop) (p0 : K.ty (K.slice (3 : TypeId) (K.int IntKind.i64))) (p1 : K.ty (K.slice (3 : TypeId) (K.int IntKind.i64))) : Prop := t15 Q (fun p0 p1 => ∃ m, G15_0 (fun b4e2 => t15c0x0 Q p0 p1 b4e2) ( t15c0x1 Q p0 p1) m (p0) (p1) ((↑(List.length p0) : Int)) ((0 : Int))) p0 p1
theorem ok15 (Q : List V1 → List Ob → Prop) (p0 : K.ty (K.slice (3 : TypeId) (K.int IntKind.i64))) (p1 : K.ty (K.slice (3 : TypeId) (K.int IntKind.i64))) (h : H15 Q p0 p1) : Of (afun tt E15 A15 Try.f15 (I15 p0 p1) [] Q) :=
  kcO (t15_eq Q p0 p1) (t15_mono (fun _ _ h => h) (fun p0 p1 ⟨m, h⟩ => ⟨m, (T15_0 _ (fun b4e2 h => kcO (t15c0x0_eq _ _ _ _) (t15c0x0_mono (fun _ _ h => h) _ _ _ h)) (fun h => kcO (t15c0x1_eq _ _ _) (t15c0x1_mono (fun _ _ h => h) _ _ h)) m _ _ _ _ h).out⟩) p0 p1 h)
theorem env15 : EnvOk Try.prog E15 := .nil
theorem loop15 (x y : List Int) (R0 : Bool → Prop) (R1 : Prop) (hl : x.length = y.length) (hm : x.length ≤ 4611686018427387904) (h0 : x ≠ y → R0 false) (h1 : x = y → R1) :
    ∀ n (i : Nat), x.length - i < n → i ≤ x.length → x.take i = y.take i → G15_0 R0 R1 n x y x.length i := by
  intro n
  induction n with
  | zero => intro i h; omega
  | succ n ih =>
    intro i hn hi ht
    refine brP_intro (fun h => ?_) (fun h => ?_)
    · simp at h
      refine ⟨⟨by omega, by omega⟩, ⟨by omega, by omega⟩, ?_⟩
      have e1 : getE (.int .i64) x i = x[i] := by simp [getE, List.getD, h]
      have e2 : getE (.int .i64) y i = y[i]'(by omega) := by simp [getE, List.getD, show i < y.length by omega]
      refine brP_intro (fun h2 => ?_) (fun h2 => ?_)
      · refine h0 fun e => ?_
        subst e
        simp at h2
      · rw [wrap_in (by omega) (by omega)]
        refine ih (i + 1) (by omega) (by omega) ?_
        rw [e1, e2] at h2
        simp at h2
        rw [List.take_succ_eq_append_getElem h, List.take_succ_eq_append_getElem (show i < y.length by omega), ht, h2]
    · simp at h
      refine h1 ?_
      rw [List.take_of_length_le (by omega), List.take_of_length_le (by omega)] at ht
      exact ht
theorem spec15 : SpecOk Try.prog 15 sp15 := S2.ok tt_ok mixed env15 Try.func15 fun x y Q h => ok15 Q x y <| by
  obtain ⟨hm, hq⟩ := h
  refine brP_intro (fun c => ?_) (fun c => ?_)
  · have : x ≠ y := by rintro rfl; simp at c
    simpa [this] using hq
  · simp at c
    refine ⟨x.length + 1, loop15 x y _ _ (by omega) hm (fun h => ?_) (fun h => ?_) _ 0 (by omega) (by omega) rfl⟩
    · simpa [h, t15c0x0, t15c0x1] using hq
    · simpa [h, t15c0x0, t15c0x1] using hq
def sp30 : PT := S2 kbs kbs F14
-- f30 "busbar/busbarref02.Equal" ['25', '25'] -> ['4']
def A30 : Ann := [(0, [0, 1, 5], [], [4])]
def E30 : Env := []
def I30 (p0 : ((.slice 4 .bool) : K).ty) (p1 : ((.slice 4 .bool) : K).ty) : List V1 := [nfK (.slice 4 .bool) p0, nfK (.slice 4 .bool) p1]
noncomputable def L30_0 : Code := Code.a (Code.a (Code.b (Code.a (Code.b (Code.b (Func.code Try.f30))))))
def S30_0 (l0 : List (K.ty K.bool)) (l1 : List (K.ty K.bool)) (x5 : Int) : St := sp (26 : Nat) [((0 : Nat), V.v (V1.one (Lf.sl (4 : TypeId) K.bool l0))), ((1 : Nat), V.v (V1.one (Lf.sl (4 : TypeId) K.bool l1))), ((5 : Nat), V.v (V1.one (Lf.int IntKind.i64 x5)))] []
def X30_0_0 (b4 : Bool) : St := sp (26 : Nat) [((4 : Nat), V.v (V1.one (Lf.bool b4)))] []
def X30_0_1 : St := sp (26 : Nat) [] []
def t30_0 (again : List (K.ty K.bool) → List (K.ty K.bool) → Int → Prop) (R0 : Bool → Prop) (R1 : Prop) (l0 : List (K.ty K.bool)) (l1 : List (K.ty K.bool)) (x5 : Int) : Prop :=
  brP (decide (x5 < (↑(List.length l0) : Int))) (bound x5 (List.length l0) ∧ bound x5 (List.length l1) ∧ brP (getE K.bool l0 x5 != getE K.bool l1 x5) (R0 false) (again l0 l1 (IntKind.wrap IntKind.i64 (x5 + (1 : Int))))) R1
theorem t30_0_mono {again : List (K.ty K.bool) → List (K.ty K.bool) → Int → Prop} {R0 : Bool → Prop} {R1 : Prop} {again' : List (K.ty K.bool) → List (K.ty K.bool) → Int → Prop} {R0' : Bool → Prop} {R1' : Prop} (ha : ∀ l0 l1 x5, again l0 l1 x5 → again' l0 l1 x5) (hr0 : ∀ b4, R0 b4 → R0' b4) (hr1 :  R1 → R1') (l0 : List (K.ty K.bool)) (l1 : List (K.ty K.bool)) (x5 : Int) :
    t30_0 again R0 R1 l0 l1 x5 → t30_0 again' R0' R1' l0 l1 x5 :=
  brM (andM (id) (andM (id) (brM (hr0 _) (ha _ _ _)))) (hr1)
theorem t30_0_eq (n : Nat) (Q : Ex → St → Prop) (l0 : List (K.ty K.bool)) (l1 : List (K.ty K.bool)) (x5 : Int) :
    t30_0 (fun l0 l1 x5 => loopP (awp tt E30 A30 L30_0 0) ([(0 : Nat), (1 : Nat), (5 : Nat)], [], [(4 : Nat)]) n (S30_0 l0 l1 x5) Q) (fun b4 => Q (Ex.ret) (X30_0_0 b4)) ( Q (Ex.exit (nat_lit 0)) (X30_0_1)) l0 l1 x5 = (loopP (awp tt E30 A30 L30_0 0) ([(0 : Nat), (1 : Nat), (5 : Nat)], [], [(4 : Nat)]) (n + 1) (S30_0 l0 l1 x5) Q) := by kernel_rfl
def G30_0 (R0 : Bool → Prop) (R1 : Prop) : Nat → List (K.ty K.bool) → List (K.ty K.bool) → Int → Prop
  | 0, _, _, _ => False
  | n + 1, l0, l1, x5 => t30_0 (G30_0 R0 R1 n) R0 R1 l0 l1 x5
theorem T30_0 {R0 : Bool → Prop} {R1 : Prop} (Q : Ex → St → Prop) (hr0 : ∀ b4, R0 b4 → Of (Q (Ex.ret) (X30_0_0 b4))) (hr1 :  R1 → Of (Q (Ex.exit (nat_lit 0)) (X30_0_1))) : ∀ (n : Nat) (l0 : List (K.ty K.bool)) (l1 : List (K.ty K.bool)) (x5 : Int), G30_0 R0 R1 n l0 l1 x5 → Of (loopP (awp tt E30 A30 L30_0 0) ([(0 : Nat), (1 : Nat), (5 : Nat)], [], [(4 : Nat)]) n (S30_0 l0 l1 x5) Q) := by
  intro n
  induction n with
  | zero => intro l0 l1 x5 h; exact h.elim
  | succ n ih =>
    intro l0 l1 x5 h
    exact kcO (t30_0_eq n Q l0 l1 x5) (t30_0_mono (fun _ _ _ h => (ih _ _ _ h).out) (fun _ h => (hr0 _ h).out) (fun h => (hr1 h).out) l0 l1 x5 h)
def t30 (Q : List V1 → List Ob → Prop) (lp0 : K.ty (K.slice (4 : TypeId) K.bool) → K.ty (K.slice (4 : TypeId) K.bool) → Prop) (p0 : K.ty (K.slice (4 : TypeId) K.bool)) (p1 : K.ty (K.slice (4 : TypeId) K.bool)) : Prop :=
  brP ((↑(List.length p0) : Int) != (↑(List.length p1) : Int)) (Q [V1.one (Lf.bool false)] []) (lp0 p0 p1)
theorem t30_mono {Q : List V1 → List Ob → Prop} {Q' : List V1 → List Ob → Prop} {lp0 : K.ty (K.slice (4 : TypeId) K.bool) → K.ty (K.slice (4 : TypeId) K.bool) → Prop} {lp0' : K.ty (K.slice (4 : TypeId) K.bool) → K.ty (K.slice (4 : TypeId) K.bool) → Prop} (hq : ∀ r h, Q r h → Q' r h) (hlp0 : ∀ p0 p1, lp0 p0 p1 → lp0' p0 p1) (p0 : K.ty (K.slice (4 : TypeId) K.bool)) (p1 : K.ty (K.slice (4 : TypeId) K.bool)) :
    t30 Q lp0 p0 p1 → t30 Q' lp0' p0 p1 :=
  brM (hq _ _) (hlp0 _ _)
theorem t30_eq (Q : List V1 → List Ob → Prop) (p0 : K.ty (K.slice (4 : TypeId) K.bool)) (p1 : K.ty (K.slice (4 : TypeId) K.bool)) :
    t30 Q (fun p0 p1 => ∃ m, loopP (awp tt E30 A30 L30_0 0) ([(0 : Nat), (1 : Nat), (5 : Nat)], [], [(4 : Nat)]) m (S30_0 (p0) (p1) ((0 : Int))) (blkC (0 : Nat) (seqC (awp tt E30 A30 (Code.b (Code.b (Code.b (Func.code Try.f30)))) (0 : Nat)) (topC tt Try.f30 0 Q)))) p0 p1 = (afun tt E30 A30 Try.f30 (I30 p0 p1) [] Q) := by kernel_rfl
def t30c0x1 (Q : List V1 → List Ob → Prop) (p0 : K.ty (K.slice (4 : TypeId) K.bool)) (p1 : K.ty (K.slice (4 : TypeId) K.bool)) : Prop :=
  Q [V1.one (Lf.bool true)] []
theorem t30c0x1_mono {Q : List V1 → List Ob → Prop} {Q' : List V1 → List Ob → Prop} (hq : ∀ r h, Q r h → Q' r h) (p0 : K.ty (K.slice (4 : TypeId) K.bool)) (p1 : K.ty (K.slice (4 : TypeId) K.bool)) :
    t30c0x1 Q p0 p1 → t30c0x1 Q' p0 p1 :=
  hq _ _
theorem t30c0x1_eq (Q : List V1 → List Ob → Prop) (p0 : K.ty (K.slice (4 : TypeId) K.bool)) (p1 : K.ty (K.slice (4 : TypeId) K.bool)) :
    t30c0x1 Q p0 p1 = ((blkC (0 : Nat) (seqC (awp tt E30 A30 (Code.b (Code.b (Code.b (Func.code Try.f30)))) (0 : Nat)) (topC tt Try.f30 0 Q))) (Ex.exit (nat_lit 0)) (X30_0_1)) := by kernel_rfl
def t30c0x0 (Q : List V1 → List Ob → Prop) (p0 : K.ty (K.slice (4 : TypeId) K.bool)) (p1 : K.ty (K.slice (4 : TypeId) K.bool)) (b4e2 : Bool) : Prop :=
  Q [V1.one (Lf.bool b4e2)] []
theorem t30c0x0_mono {Q : List V1 → List Ob → Prop} {Q' : List V1 → List Ob → Prop} (hq : ∀ r h, Q r h → Q' r h) (p0 : K.ty (K.slice (4 : TypeId) K.bool)) (p1 : K.ty (K.slice (4 : TypeId) K.bool)) (b4e2 : Bool) :
    t30c0x0 Q p0 p1 b4e2 → t30c0x0 Q' p0 p1 b4e2 :=
  hq _ _
theorem t30c0x0_eq (Q : List V1 → List Ob → Prop) (p0 : K.ty (K.slice (4 : TypeId) K.bool)) (p1 : K.ty (K.slice (4 : TypeId) K.bool)) (b4e2 : Bool) :
    t30c0x0 Q p0 p1 b4e2 = ((blkC (0 : Nat) (seqC (awp tt E30 A30 (Code.b (Code.b (Code.b (Func.code Try.f30)))) (0 : Nat)) (topC tt Try.f30 0 Q))) (Ex.ret) (X30_0_0 b4e2)) := by kernel_rfl
def H30 (Q : List V1 → List Ob → Prop) (p0 : K.ty (K.slice (4 : TypeId) K.bool)) (p1 : K.ty (K.slice (4 : TypeId) K.bool)) : Prop := t30 Q (fun p0 p1 => ∃ m, G30_0 (fun b4e2 => t30c0x0 Q p0 p1 b4e2) ( t30c0x1 Q p0 p1) m (p0) (p1) ((0 : Int))) p0 p1
theorem ok30 (Q : List V1 → List Ob → Prop) (p0 : K.ty (K.slice (4 : TypeId) K.bool)) (p1 : K.ty (K.slice (4 : TypeId) K.bool)) (h : H30 Q p0 p1) : Of (afun tt E30 A30 Try.f30 (I30 p0 p1) [] Q) :=
  kcO (t30_eq Q p0 p1) (t30_mono (fun _ _ h => h) (fun p0 p1 ⟨m, h⟩ => ⟨m, (T30_0 _ (fun b4e2 h => kcO (t30c0x0_eq _ _ _ _) (t30c0x0_mono (fun _ _ h => h) _ _ _ h)) (fun h => kcO (t30c0x1_eq _ _ _) (t30c0x1_mono (fun _ _ h => h) _ _ h)) m _ _ _ h).out⟩) p0 p1 h)
theorem env30 : EnvOk Try.prog E30 := .nil
theorem loop30 (x y : List Bool) (R0 : Bool → Prop) (R1 : Prop) (hl : x.length = y.length) (hm : x.length ≤ 4611686018427387904) (h0 : x ≠ y → R0 false) (h1 : x = y → R1) :
    ∀ n (i : Nat), x.length - i < n → i ≤ x.length → x.take i = y.take i → G30_0 R0 R1 n x y i := by
  intro n
  induction n with
  | zero => intro i h; omega
  | succ n ih =>
    intro i hn hi ht
    refine brP_intro (fun h => ?_) (fun h => ?_)
    · simp at h
      refine ⟨⟨by omega, by omega⟩, ⟨by omega, by omega⟩, ?_⟩
      have e1 : getE .bool x i = x[i] := by simp [getE, List.getD, h]
      have e2 : getE .bool y i = y[i]'(by omega) := by simp [getE, List.getD, show i < y.length by omega]
      refine brP_intro (fun h2 => ?_) (fun h2 => ?_)
      · refine h0 fun e => ?_
        subst e
        simp at h2
      · rw [wrap_in (by omega) (by omega)]
        refine ih (i + 1) (by omega) (by omega) ?_
        rw [e1, e2] at h2
        simp at h2
        rw [List.take_succ_eq_append_getElem h, List.take_succ_eq_append_getElem (show i < y.length by omega), ht, h2]
    · simp at h
      refine h1 ?_
      rw [List.take_of_length_le (by omega), List.take_of_length_le (by omega)] at ht
      exact ht
theorem spec30 : SpecOk Try.prog 30 sp30 := S2.ok tt_ok mixed env30 Try.func30 fun x y Q h => ok30 Q x y <| by
  obtain ⟨hm, hq⟩ := h
  refine brP_intro (fun c => ?_) (fun c => ?_)
  · have : x ≠ y := by rintro rfl; simp at c
    simpa [this] using hq
  · simp at c
    refine ⟨x.length + 1, loop30 x y _ _ (by omega) hm (fun h => ?_) (fun h => ?_) _ 0 (by omega) (by omega) rfl⟩
    · simpa [h, t30c0x0, t30c0x1] using hq
    · simpa [h, t30c0x0, t30c0x1] using hq
def F13 (x y : k26.ty) (Q : QT) : Prop := x.1.length ≤ 4611686018427387904 ∧ x.2.1.length ≤ 4611686018427387904 ∧ x.2.2.length ≤ 4611686018427387904 ∧ Q [.one (.bool (decide (x = y)))] []
def sp13 : PT := S2 k26 k26 F13
-- f13 "busbar/busbarref03.Equal" ['27', '27'] -> ['4']
def A13 : Ann := []
def E13 : Env := [(30, sp30)]
def I13 (p0 : (k26 : K).ty) (p1 : (k26 : K).ty) : List V1 := [nfK k26 p0, nfK k26 p1]
def t13 (Q : List V1 → List Ob → Prop) (p0 : K.ty k26) (p1 : K.ty k26) : Prop :=
  List.length p0.fst ≤ (4611686018427387904 : Nat) ∧ brP (decide (p0.fst = p1.fst)) (List.length p0.snd.fst ≤ (4611686018427387904 : Nat) ∧ brP (decide (p0.snd.fst = p1.snd.fst)) (List.length p0.snd.snd ≤ (4611686018427387904 : Nat) ∧ Q [V1.one (Lf.bool (decide (p0.snd.snd = p1.snd.snd)))] []) (Q [V1.one (Lf.bool false)] [])) (Q [V1.one (Lf.bool false)] [])
theorem t13_mono {Q : List V1 → List Ob → Prop} {Q' : List V1 → List Ob → Prop} (hq : ∀ r h, Q r h → Q' r h) (p0 : K.ty k26) (p1 : K.ty k26) :
    t13 Q p0 p1 → t13 Q' p0 p1 :=
  andM (id) (brM (andM (id) (brM (andM (id) (hq _ _)) (hq _ _))) (hq _ _))
theorem t13_eq (Q : List V1 → List Ob → Prop) (p0 : K.ty k26) (p1 : K.ty k26) :
    t13 Q p0 p1 = (afun tt E13 A13 Try.f13 (I13 p0 p1) [] Q) := by kernel_rfl
def H13 (Q : List V1 → List Ob → Prop) (p0 : K.ty k26) (p1 : K.ty k26) : Prop := t13 Q p0 p1
theorem ok13 (Q : List V1 → List Ob → Prop) (p0 : K.ty k26) (p1 : K.ty k26) (h : H13 Q p0 p1) : Of (afun tt E13 A13 Try.f13 (I13 p0 p1) [] Q) :=
  kcO (t13_eq Q p0 p1) (t13_mono (fun _ _ h => h) p0 p1 h)
theorem env13 : EnvOk Try.prog E13 := .cons spec30 (by kernel_rfl) <| .nil
theorem spec13 : SpecOk Try.prog 13 sp13 := S2.ok tt_ok mixed env13 Try.func13 fun x y Q h => ok13 Q x y <| by
  obtain ⟨h1, h2, h3, hq⟩ := h
  obtain ⟨a, b, c⟩ := x
  obtain ⟨a', b', c'⟩ := y
  refine ⟨h1, ?_⟩
  refine brP_intro (fun d => ?_) (fun d => ?_) <;> simp at d
  · refine ⟨h2, ?_⟩
    refine brP_intro (fun e => ?_) (fun e => ?_) <;> simp at e
    · refine ⟨h3, ?_⟩
      simpa [d, e] using hq
    · simpa [d, e] using hq
  · simpa [d] using hq
end Go.AM
