/- Functions of the program: equality of slices, edges counted. Conditions: none. -/
import Derived.Test.YtlfelhdcokadbaaSeal
import Derived.Test.YtlfelhdcokadbaaTk
import Derived.Test.YtlfelhdcokadbaaB1
set_option linter.all false
namespace Go.AM
open Go.Proofs
def isEdge (c : k74.ty) : Bool := bif c.1 == 2 then true else c.1 == 3
def F51 (c : k74.ty) (Q : QT) : Prop := Q [.one (.bool (isEdge c))] []
def sp51 : PT := S1 k74 F51
-- f51 "busbar/rungeval.sees" ['75'] -> ['4']
def A51 : Ann := []
def E51 : Env := []
def I51 (p0 : (k74 : K).ty) : List V1 := [nfK k74 p0]
def t51 (Q : List V1 → List Ob → Prop) (p0 : K.ty k74) : Prop :=
  brP (p0.fst == (2 : Int)) (Q [V1.one (Lf.bool true)] []) (Q [V1.one (Lf.bool (p0.fst == (3 : Int)))] [])
theorem t51_mono {Q : List V1 → List Ob → Prop} {Q' : List V1 → List Ob → Prop} (hq : ∀ r h, Q r h → Q' r h) (p0 : K.ty k74) :
    t51 Q p0 → t51 Q' p0 :=
  brM (hq _ _) (hq _ _)
theorem t51_eq (Q : List V1 → List Ob → Prop) (p0 : K.ty k74) :
    t51 Q p0 = (afun tt E51 A51 Try.f51 (I51 p0) [] Q) := by kernel_rfl
def H51 (Q : List V1 → List Ob → Prop) (p0 : K.ty k74) : Prop := t51 Q p0
theorem ok51 (Q : List V1 → List Ob → Prop) (p0 : K.ty k74) (h : H51 Q p0) : Of (afun tt E51 A51 Try.f51 (I51 p0) [] Q) :=
  kcO (t51_eq Q p0) (t51_mono (fun _ _ h => h) p0 h)
theorem env51 : EnvOk Try.prog E51 := .nil
theorem spec51 : SpecOk Try.prog 51 sp51 := S1.ok tt_ok mixed env51 Try.func51 fun x Q h => ok51 Q x <| by
  unfold H51 t51; unfold F51 isEdge at h
  refine brP_intro (fun c => ?_) (fun c => ?_) <;> simp_all
-- f31 "busbar/rungeval.EdgeCount" ['46'] -> ['3']
def A31 : Ann := [(0, [3, 7, 8, 9], [3], [2])]
def E31 : Env := [(51, sp51)]
def I31 (p0 : (k45 : K).ty) : List V1 := [nfK k45 p0]
noncomputable def L31_0 : Code := Code.a (Code.a (Code.b (Code.a (Code.b (Code.b (Func.code Try.f31))))))
def S31_0 (x3 : Int) (l7 : List (K.ty k74)) (x8 : Int) (x9 : Int) : St := sp (19 : Nat) [((3 : Nat), V.v (V1.one (Lf.int IntKind.i64 x3))), ((7 : Nat), V.v (V1.one (Lf.sl (75 : TypeId) k74 l7))), ((8 : Nat), V.v (V1.one (Lf.int IntKind.i64 x8))), ((9 : Nat), V.v (V1.one (Lf.int IntKind.i64 x9)))] []
def X31_0_0 (x3 : Int) : St := sp (19 : Nat) [((3 : Nat), V.v (V1.one (Lf.int IntKind.i64 x3)))] []
def t31_0 (again : Int → List (K.ty k74) → Int → Int → Prop) (R0 : Int → Prop) (x3 : Int) (l7 : List (K.ty k74)) (x8 : Int) (x9 : Int) : Prop :=
  brP (decide (x9 < x8)) (bound x9 (List.length l7) ∧ brP (isEdge (getE k74 l7 x9)) (again (IntKind.wrap IntKind.i64 (x3 + (1 : Int))) l7 x8 (IntKind.wrap IntKind.i64 (x9 + (1 : Int)))) (again x3 l7 x8 (IntKind.wrap IntKind.i64 (x9 + (1 : Int))))) (R0 x3)
theorem t31_0_mono {again : Int → List (K.ty k74) → Int → Int → Prop} {R0 : Int → Prop} {again' : Int → List (K.ty k74) → Int → Int → Prop} {R0' : Int → Prop} (ha : ∀ x3 l7 x8 x9, again x3 l7 x8 x9 → again' x3 l7 x8 x9) (hr0 : ∀ x3, R0 x3 → R0' x3) (x3 : Int) (l7 : List (K.ty k74)) (x8 : Int) (x9 : Int) :
    t31_0 again R0 x3 l7 x8 x9 → t31_0 again' R0' x3 l7 x8 x9 :=
  brM (andM (id) (brM (ha _ _ _ _) (ha _ _ _ _))) (hr0 _)
theorem t31_0_eq (n : Nat) (Q : Ex → St → Prop) (x3 : Int) (l7 : List (K.ty k74)) (x8 : Int) (x9 : Int) :
    t31_0 (fun x3 l7 x8 x9 => loopP (awp tt E31 A31 L31_0 0) ([(3 : Nat), (7 : Nat), (8 : Nat), (9 : Nat)], [(3 : Nat)], [(2 : Nat)]) n (S31_0 x3 l7 x8 x9) Q) (fun x3 => Q (Ex.exit (nat_lit 0)) (X31_0_0 x3)) x3 l7 x8 x9 = (loopP (awp tt E31 A31 L31_0 0) ([(3 : Nat), (7 : Nat), (8 : Nat), (9 : Nat)], [(3 : Nat)], [(2 : Nat)]) (n + 1) (S31_0 x3 l7 x8 x9) Q) := by kernel_rfl
def G31_0 (R0 : Int → Prop) : Nat → Int → List (K.ty k74) → Int → Int → Prop
  | 0, _, _, _, _ => False
  | n + 1, x3, l7, x8, x9 => t31_0 (G31_0 R0 n) R0 x3 l7 x8 x9
theorem T31_0 {R0 : Int → Prop} (Q : Ex → St → Prop) (hr0 : ∀ x3, R0 x3 → Of (Q (Ex.exit (nat_lit 0)) (X31_0_0 x3))) : ∀ (n : Nat) (x3 : Int) (l7 : List (K.ty k74)) (x8 : Int) (x9 : Int), G31_0 R0 n x3 l7 x8 x9 → Of (loopP (awp tt E31 A31 L31_0 0) ([(3 : Nat), (7 : Nat), (8 : Nat), (9 : Nat)], [(3 : Nat)], [(2 : Nat)]) n (S31_0 x3 l7 x8 x9) Q) := by
  intro n
  induction n with
  | zero => intro x3 l7 x8 x9 h; exact h.elim
  | succ n ih =>
    intro x3 l7 x8 x9 h
    exact kcO (t31_0_eq n Q x3 l7 x8 x9) (t31_0_mono (fun _ _ _ _ h => (ih _ _ _ _ h).out) (fun _ h => (hr0 _ h).out) x3 l7 x8 x9 h)
def t31 (Q : List V1 → List Ob → Prop) (lp0 : K.ty k45 → Prop) (p0 : K.ty k45) : Prop :=
  lp0 p0
theorem t31_mono {Q : List V1 → List Ob → Prop} {Q' : List V1 → List Ob → Prop} {lp0 : K.ty k45 → Prop} {lp0' : K.ty k45 → Prop} (hq : ∀ r h, Q r h → Q' r h) (hlp0 : ∀ p0, lp0 p0 → lp0' p0) (p0 : K.ty k45) :
    t31 Q lp0 p0 → t31 Q' lp0' p0 :=
  hlp0 _
theorem t31_eq (Q : List V1 → List Ob → Prop) (p0 : K.ty k45) :
    t31 Q (fun p0 => ∃ m, loopP (awp tt E31 A31 L31_0 0) ([(3 : Nat), (7 : Nat), (8 : Nat), (9 : Nat)], [(3 : Nat)], [(2 : Nat)]) m (S31_0 ((0 : Int)) (p0.snd.fst) ((↑(List.length p0.snd.fst) : Int)) ((0 : Int))) (blkC (0 : Nat) (seqC (awp tt E31 A31 (Code.b (Code.b (Code.b (Func.code Try.f31)))) (0 : Nat)) (topC tt Try.f31 0 Q)))) p0 = (afun tt E31 A31 Try.f31 (I31 p0) [] Q) := by kernel_rfl
def t31c0x0 (Q : List V1 → List Ob → Prop) (p0 : K.ty k45) (x3e1 : Int) : Prop :=
  Q [V1.one (Lf.int IntKind.i64 x3e1)] []
theorem t31c0x0_mono {Q : List V1 → List Ob → Prop} {Q' : List V1 → List Ob → Prop} (hq : ∀ r h, Q r h → Q' r h) (p0 : K.ty k45) (x3e1 : Int) :
    t31c0x0 Q p0 x3e1 → t31c0x0 Q' p0 x3e1 :=
  hq _ _
theorem t31c0x0_eq (Q : List V1 → List Ob → Prop) (p0 : K.ty k45) (x3e1 : Int) :
    t31c0x0 Q p0 x3e1 = ((blkC (0 : Nat) (seqC (awp tt E31 A31 (Code.b (Code.b (Code.b (Func.code Try.f31)))) (0 : Nat)) (topC tt Try.f31 0 Q))) (Ex.exit (nat_lit 0)) (X31_0_0 x3e1)) := by kernel_rfl
def H31 (Q : List V1 → List Ob → Prop) (p0 : K.ty k45) : Prop := t31 Q (fun p0 => ∃ m, G31_0 (fun x3e1 => t31c0x0 Q p0 x3e1) m ((0 : Int)) (p0.snd.fst) ((↑(List.length p0.snd.fst) : Int)) ((0 : Int))) p0
theorem ok31 (Q : List V1 → List Ob → Prop) (p0 : K.ty k45) (h : H31 Q p0) : Of (afun tt E31 A31 Try.f31 (I31 p0) [] Q) :=
  kcO (t31_eq Q p0) (t31_mono (fun _ _ h => h) (fun p0 ⟨m, h⟩ => ⟨m, (T31_0 _ (fun x3e1 h => kcO (t31c0x0_eq _ _ _) (t31c0x0_mono (fun _ _ h => h) _ _ h)) m _ _ _ _ h).out⟩) p0 h)
theorem env31 : EnvOk Try.prog E31 := .cons spec51 (by kernel_rfl) <| .nil
theorem loop31 (l : List k74.ty) (R : Int → Prop) (hl : l.length ≤ 4611686018427387904) : ∀ n (i : Nat) (x : Int), l.length - i < n → i ≤ l.length → 0 ≤ x → x ≤ i →
    R (x + ((l.drop i).countP isEdge : Nat)) → G31_0 R n x l l.length i := by
  intro n
  induction n with
  | zero => intro i x h; omega
  | succ n ih =>
    intro i x hn hi hx hxi hR
    have hw : ∀ y : Int, 0 ≤ y → y ≤ i → IntKind.i64.wrap (y + 1) = y + 1 := fun y h1 h2 => wrap_in (by omega) (by omega)
    refine brP_intro (fun h => ?_) (fun h => ?_)
    · simp at h
      have hc := getE_cons k74 l i (by omega)
      rw [hc] at hR
      refine ⟨⟨by omega, by omega⟩, ?_⟩
      rw [hw i (by omega) (by omega), hw x hx hxi]
      refine brP_intro (fun h1 => ?_) (fun h1 => ?_) <;> simp [h1] at hR
      · exact ih (i + 1) (x + 1) (by omega) (by omega) (by omega) (by omega) (by rw [Int.add_assoc, Int.add_comm 1]; exact hR)
      · exact ih (i + 1) x (by omega) (by omega) hx (by omega) hR
    · simp at h
      rw [show i = l.length by omega] at hR
      simpa using hR
def F31 (r : k45.ty) (Q : QT) : Prop := r.2.1.length ≤ 4611686018427387904 ∧ Q [.one (.int .i64 (r.2.1.countP isEdge : Nat))] []
def sp31 : PT := S1 k45 F31
theorem spec31 : SpecOk Try.prog 31 sp31 := S1.ok tt_ok mixed env31 Try.func31 fun r Q h => ok31 Q r
  ⟨_, loop31 r.2.1 _ h.1 (r.2.1.length + 1) 0 0 (by omega) (by omega) (by omega) (by omega) (by simpa [t31c0x0] using h.2)⟩
/-- slices.Equal -/
abbrev ksi : K := .slice 3 (.int .i64)
def F14 (x y : List Bool) (Q : QT) : Prop := x.length ≤ 4611686018427387904 ∧ Q [.one (.bool (decide (x = y)))] []
def sp14 : PT := S2 kbs kbs F14
-- f14 "slices.Equal[[]bool,bool]" ['25', '25'] -> ['4']
def A14 : Ann := [(0, [0, 1, 12, 13], [], [4])]
def E14 : Env := []
def I14 (p0 : ((.slice 4 .bool) : K).ty) (p1 : ((.slice 4 .bool) : K).ty) : List V1 := [nfK (.slice 4 .bool) p0, nfK (.slice 4 .bool) p1]
noncomputable def L14_0 : Code := Code.a (Code.a (Code.b (Code.a (Code.b (Code.b (Func.code Try.f14))))))
def S14_0 (l0 : List (K.ty K.bool)) (l1 : List (K.ty K.bool)) (x12 : Int) (x13 : Int) : St := sp (26 : Nat) [((0 : Nat), V.v (V1.one (Lf.sl (4 : TypeId) K.bool l0))), ((1 : Nat), V.v (V1.one (Lf.sl (4 : TypeId) K.bool l1))), ((12 : Nat), V.v (V1.one (Lf.int IntKind.i64 x12))), ((13 : Nat), V.v (V1.one (Lf.int IntKind.i64 x13)))] []
def X14_0_0 (b4 : Bool) : St := sp (26 : Nat) [((4 : Nat), V.v (V1.one (Lf.bool b4)))] []
def X14_0_1 : St := sp (26 : Nat) [] []
def t14_0 (again : List (K.ty K.bool) → List (K.ty K.bool) → Int → Int → Prop) (R0 : Bool → Prop) (R1 : Prop) (l0 : List (K.ty K.bool)) (l1 : List (K.ty K.bool)) (x12 : Int) (x13 : Int) : Prop :=
  brP (decide (x13 < x12)) (bound x13 (List.length l0) ∧ bound x13 (List.length l1) ∧ brP (getE K.bool l0 x13 != getE K.bool l1 x13) (R0 false) (again l0 l1 x12 (IntKind.wrap IntKind.i64 (x13 + (1 : Int))))) R1
theorem t14_0_mono {again : List (K.ty K.bool) → List (K.ty K.bool) → Int → Int → Prop} {R0 : Bool → Prop} {R1 : Prop} {again' : List (K.ty K.bool) → List (K.ty K.bool) → Int → Int → Prop} {R0' : Bool → Prop} {R1' : Prop} (ha : ∀ l0 l1 x12 x13, again l0 l1 x12 x13 → again' l0 l1 x12 x13) (hr0 : ∀ b4, R0 b4 → R0' b4) (hr1 :  R1 → R1') (l0 : List (K.ty K.bool)) (l1 : List (K.ty K.bool)) (x12 : Int) (x13 : Int) :
    t14_0 again R0 R1 l0 l1 x12 x13 → t14_0 again' R0' R1' l0 l1 x12 x13 :=
  brM (andM (id) (andM (id) (brM (hr0 _) (ha _ _ _ _)))) (hr1)
theorem t14_0_eq (n : Nat) (Q : Ex → St → Prop) (l0 : List (K.ty K.bool)) (l1 : List (K.ty K.bool)) (x12 : Int) (x13 : Int) :
    t14_0 (fun l0 l1 x12 x13 => loopP (awp tt E14 A14 L14_0 0) ([(0 : Nat), (1 : Nat), (12 : Nat), (13 : Nat)], [], [(4 : Nat)]) n (S14_0 l0 l1 x12 x13) Q) (fun b4 => Q (Ex.ret) (X14_0_0 b4)) ( Q (Ex.exit (nat_lit 0)) (X14_0_1)) l0 l1 x12 x13 = (loopP (awp tt E14 A14 L14_0 0) ([(0 : Nat), (1 : Nat), (12 : Nat), (13 : Nat)], [], [(4 : Nat)]) (n + 1) (S14_0 l0 l1 x12 x13) Q) := by kernel_rfl
def G14_0 (R0 : Bool → Prop) (R1 : Prop) : Nat → List (K.ty K.bool) → List (K.ty K.bool) → Int → Int → Prop
  | 0, _, _, _, _ => False
  | n + 1, l0, l1, x12, x13 => t14_0 (G14_0 R0 R1 n) R0 R1 l0 l1 x12 x13
theorem T14_0 {R0 : Bool → Prop} {R1 : Prop} (Q : Ex → St → Prop) (hr0 : ∀ b4, R0 b4 → Of (Q (Ex.ret) (X14_0_0 b4))) (hr1 :  R1 → Of (Q (Ex.exit (nat_lit 0)) (X14_0_1))) : ∀ (n : Nat) (l0 : List (K.ty K.bool)) (l1 : List (K.ty K.bool)) (x12 : Int) (x13 : Int), G14_0 R0 R1 n l0 l1 x12 x13 → Of (loopP (awp tt E14 A14 L14_0 0) ([(0 : Nat), (1 : Nat), (12 : Nat), (13 : Nat)], [], [(4 : Nat)]) n (S14_0 l0 l1 x12 x13) Q) := by
  intro n
  induction n with
  | zero => intro l0 l1 x12 x13 h; exact h.elim
  | succ n ih =>
    intro l0 l1 x12 x13 h
    exact kcO (t14_0_eq n Q l0 l1 x12 x13) (t14_0_mono (fun _ _ _ _ h => (ih _ _ _ _ h).out) (fun _ h => (hr0 _ h).out) (fun h => (hr1 h).out) l0 l1 x12 x13 h)
def t14 (Q : List V1 → List Ob → Prop) (lp0 : K.ty (K.slice (4 : TypeId) K.bool) → K.ty (K.slice (4 : TypeId) K.bool) → Prop) (p0 : K.ty (K.slice (4 : TypeId) K.bool)) (p1 : K.ty (K.slice (4 : TypeId) K.bool)) : Prop :=
  brP ((↑(List.length p0) : Int) != (↑(List.length p1) : Int)) (Q [V1.one (Lf.bool false)] []) (lp0 p0 p1)
theorem t14_mono {Q : List V1 → List Ob → Prop} {Q' : List V1 → List Ob → Prop} {lp0 : K.ty (K.slice (4 : TypeId) K.bool) → K.ty (K.slice (4 : TypeId) K.bool) → Prop} {lp0' : K.ty (K.slice (4 : TypeId) K.bool) → K.ty (K.slice (4 : TypeId) K.bool) → Prop} (hq : ∀ r h, Q r h → Q' r h) (hlp0 : ∀ p0 p1, lp0 p0 p1 → lp0' p0 p1) (p0 : K.ty (K.slice (4 : TypeId) K.bool)) (p1 : K.ty (K.slice (4 : TypeId) K.bool)) :
    t14 Q lp0 p0 p1 → t14 Q' lp0' p0 p1 :=
  brM (hq _ _) (hlp0 _ _)
theorem t14_eq (Q : List V1 → List Ob → Prop) (p0 : K.ty (K.slice (4 : TypeId) K.bool)) (p1 : K.ty (K.slice (4 : TypeId) K.bool)) :
    t14 Q (fun p0 p1 => ∃ m, loopP (awp tt E14 A14 L14_0 0) ([(0 : Nat), (1 : Nat), (12 : Nat), (13 : Nat)], [], [(4 : Nat)]) m (S14_0 (p0) (p1) ((↑(List.length p0) : Int)) ((0 : Int))) (blkC (0 : Nat) (seqC (awp tt E14 A14 (Code.b (Code.b (Code.b (Func.code Try.f14)))) (0 : Nat)) (topC tt Try.f14 0 Q)))) p0 p1 = (afun tt E14 A14 Try.f14 (I14 p0 p1) [] Q) := by kernel_rfl
def t14c0x1 (Q : List V1 → List Ob → Prop) (p0 : K.ty (K.slice (4 : TypeId) K.bool)) (p1 : K.ty (K.slice (4 : TypeId) K.bool)) : Prop :=
  Q [V1.one (Lf.bool true)] []
theorem t14c0x1_mono {Q : List V1 → List Ob → Prop} {Q' : List V1 → List Ob → Prop} (hq : ∀ r h, Q r h → Q' r h) (p0 : K.ty (K.slice (4 : TypeId) K.bool)) (p1 : K.ty (K.slice (4 : TypeId) K.bool)) :
    t14c0x1 Q p0 p1 → t14c0x1 Q' p0 p1 :=
  hq _ _
theorem t14c0x1_eq (Q : List V1 → List Ob → Prop) (p0 : K.ty (K.slice (4 : TypeId) K.bool)) (p1 : K.ty (K.slice (4 : TypeId) K.bool)) :
    t14c0x1 Q p0 p1 = ((blkC (0 : Nat) (seqC (awp tt E14 A14 (Code.b (Code.b (Code.b (Func.code Try.f14)))) (0 : Nat)) (topC tt Try.f14 0 Q))) (Ex.exit (nat_lit 0)) (X14_0_1)) := by kernel_rfl
def t14c0x0 (Q : List V1 → List Ob → Prop) (p0 : K.ty (K.slice (4 : TypeId) K.bool)) (p1 : K.ty (K.slice (4 : TypeId) K.bool)) (b4e2 : Bool) : Prop :=
  Q [V1.one (Lf.bool b4e2)] []
theorem t14c0x0_mono {Q : List V1 → List Ob → Prop} {Q' : List V1 → List Ob → Prop} (hq : ∀ r h, Q r h → Q' r h) (p0 : K.ty (K.slice (4 : TypeId) K.bool)) (p1 : K.ty (K.slice (4 : TypeId) K.bool)) (b4e2 : Bool) :
    t14c0x0 Q p0 p1 b4e2 → t14c0x0 Q' p0 p1 b4e2 :=
  hq _ _
theorem t14c0x0_eq (Q : List V1 → List Ob → Prop) (p0 : K.ty (K.slice (4 : TypeId) K.bool)) (p1 : K.ty (K.slice (4 : TypeId) K.bool)) (b4e2 : Bool) :
    t14c0x0 Q p0 p1 b4e2 = ((blkC (0 : Nat) (seqC (awp tt E14 A14 (Code.b (Code.b (Code.b (Func.code Try.f14)))) (0 : Nat)) (topC tt Try.f14 0 Q))) (Ex.ret) (X14_0_0 b4e2)) := by kernel_rfl
def H14 (Q : List V1 → List Ob → Prop) (p0 : K.ty (K.slice (4 : TypeId) K.bool)) (p1 : K.ty (K.slice (4 : TypeId) K.bool)) : Prop := t14 Q (fun p0 p1 => ∃ m, G14_0 (fun b4e2 => t14c0x0 Q p0 p1 b4e2) ( t14c0x1 Q p0 p1) m (p0) (p1) ((↑(List.length p0) : Int)) ((0 : Int))) p0 p1
theorem ok14 (Q : List V1 → List Ob → Prop) (p0 : K.ty (K.slice (4 : TypeId) K.bool)) (p1 : K.ty (K.slice (4 : TypeId) K.bool)) (h : H14 Q p0 p1) : Of (afun tt E14 A14 Try.f14 (I14 p0 p1) [] Q) :=
  kcO (t14_eq Q p0 p1) (t14_mono (fun _ _ h => h) (fun p0 p1 ⟨m, h⟩ => ⟨m, (T14_0 _ (fun b4e2 h => kcO (t14c0x0_eq _ _ _ _) (t14c0x0_mono (fun _ _ h => h) _ _ _ h)) (fun h => kcO (t14c0x1_eq _ _ _) (t14c0x1_mono (fun _ _ h => h) _ _ h)) m _ _ _ _ h).out⟩) p0 p1 h)
theorem env14 : EnvOk Try.prog E14 := .nil
theorem loop14 (x y : List Bool) (R0 : Bool → Prop) (R1 : Prop) (hl : x.length = y.length) (hm : x.length ≤ 4611686018427387904) (h0 : x ≠ y → R0 false) (h1 : x = y → R1) :
    ∀ n (i : Nat), x.length - i < n → i ≤ x.length → x.take i = y.take i → G14_0 R0 R1 n x y x.length i := by
  intro n
  induction n with
  | zero => intro i h; omega
  | succ n ih =>
    intro i hn hi ht
    refine brP_intro (fun h => ?_) (fun h => ?_)
    · simp at h
      refine ⟨⟨by omega, by omega⟩, ⟨by omega, by omega⟩, ?_⟩
      have e1 : getE .bool x i = x[i] := by simp [getE, List.getD, h]
      have e2 : getE .bool y i = y[i]'(by omega) := by simp [getE, List.getD, show i < y.length by omega]
      refine brP_intro (fun h2 => ?_) (fun h2 => ?_)
      · refine h0 fun e => ?_
        subst e
        simp at h2
      · rw [wrap_in (by omega) (by omega)]
        refine ih (i + 1) (by omega) (by omega) ?_
        rw [e1, e2] at h2
        simp at h2
        rw [List.take_succ_eq_append_getElem h, List.take_succ_eq_append_getElem (show i < y.length by omega), ht, h2]
    · simp at h
      refine h1 ?_
      rw [List.take_of_length_le (by omega), List.take_of_length_le (by omega)] at ht
      exact ht
theorem spec14 : SpecOk Try.prog 14 sp14 := S2.ok tt_ok mixed env14 Try.func14 fun x y Q h => ok14 Q x y <| by
  obtain ⟨hm, hq⟩ := h
  refine brP_intro (fun c => ?_) (fun c => ?_)
  · have : x ≠ y := by rintro rfl; simp at c
    simpa [this] using hq
  · simp at c
    refine ⟨x.length + 1, loop14 x y _ _ (by omega) hm (fun h => ?_) (fun h => ?_) _ 0 (by omega) (by omega) rfl⟩
    · simpa [h, t14c0x0, t14c0x1] using hq
    · simpa [h, t14c0x0, t14c0x1] using hq
end Go.AM
