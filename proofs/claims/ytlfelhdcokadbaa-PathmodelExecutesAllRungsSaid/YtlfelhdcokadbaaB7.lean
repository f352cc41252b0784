/- Functions of the program: the search for a rung. Conditions: none. -/
import Derived.Test.YtlfelhdcokadbaaB6
set_option linter.all false
namespace Go.AM
open Go.Proofs
def A56 : Ann := [(0, [0, 1, 7, 8], [], [4])]
def E56 : Env := [(54, sp54), (38, sp38), (57, sp57)]
def I56a (l : List Rung) (x : Rung) : List V1 := [nfK kR l, .one (.clo 54 [.imm k45 x])]
noncomputable def L5654_0 : Code := Code.a (Code.a (Code.b (Code.a (Code.b (Func.code Try.f56)))))
def S5654_0 (l0 : List (K.ty k45)) (c1_0 : K.ty k45) (x7 : Int) (x8 : Int) : St := sp (19 : Nat) [((0 : Nat), V.v (V1.one (Lf.sl (46 : TypeId) k45 l0))), ((1 : Nat), V.v (V1.one (Lf.clo (54 : FuncId) [Cap.imm k45 c1_0]))), ((7 : Nat), V.v (V1.one (Lf.int IntKind.i64 x7))), ((8 : Nat), V.v (V1.one (Lf.int IntKind.i64 x8)))] []
def X5654_0_0 (x4 : Int) : St := sp (19 : Nat) [((4 : Nat), V.v (V1.one (Lf.int IntKind.i64 x4)))] []
def X5654_0_1 : St := sp (19 : Nat) [] []
def t5654_0 (again : List (K.ty k45) → K.ty k45 → Int → Int → Prop) (R0 : Int → Prop) (R1 : Prop) (l0 : List (K.ty k45)) (c1_0 : K.ty k45) (x7 : Int) (x8 : Int) : Prop :=
  brP (decide (x8 < x7)) (bound x8 (List.length l0) ∧ brP (decide (Rung.label (getE k45 l0 x8) = Rung.label c1_0)) (R0 x8) (again l0 c1_0 x7 (IntKind.wrap IntKind.i64 (x8 + (1 : Int))))) R1
theorem t5654_0_mono {again : List (K.ty k45) → K.ty k45 → Int → Int → Prop} {R0 : Int → Prop} {R1 : Prop} {again' : List (K.ty k45) → K.ty k45 → Int → Int → Prop} {R0' : Int → Prop} {R1' : Prop} (ha : ∀ l0 c1_0 x7 x8, again l0 c1_0 x7 x8 → again' l0 c1_0 x7 x8) (hr0 : ∀ x4, R0 x4 → R0' x4) (hr1 :  R1 → R1') (l0 : List (K.ty k45)) (c1_0 : K.ty k45) (x7 : Int) (x8 : Int) :
    t5654_0 again R0 R1 l0 c1_0 x7 x8 → t5654_0 again' R0' R1' l0 c1_0 x7 x8 :=
  brM (andM (id) (brM (hr0 _) (ha _ _ _ _))) (hr1)
theorem t5654_0_eq (n : Nat) (Q : Ex → St → Prop) (l0 : List (K.ty k45)) (c1_0 : K.ty k45) (x7 : Int) (x8 : Int) :
    t5654_0 (fun l0 c1_0 x7 x8 => loopP (awp tt E56 A56 L5654_0 0) ([(0 : Nat), (1 : Nat), (7 : Nat), (8 : Nat)], [], [(4 : Nat)]) n (S5654_0 l0 c1_0 x7 x8) Q) (fun x4 => Q (Ex.ret) (X5654_0_0 x4)) ( Q (Ex.exit (nat_lit 0)) (X5654_0_1)) l0 c1_0 x7 x8 = (loopP (awp tt E56 A56 L5654_0 0) ([(0 : Nat), (1 : Nat), (7 : Nat), (8 : Nat)], [], [(4 : Nat)]) (n + 1) (S5654_0 l0 c1_0 x7 x8) Q) := by kernel_rfl
def G5654_0 (R0 : Int → Prop) (R1 : Prop) : Nat → List (K.ty k45) → K.ty k45 → Int → Int → Prop
  | 0, _, _, _, _ => False
  | n + 1, l0, c1_0, x7, x8 => t5654_0 (G5654_0 R0 R1 n) R0 R1 l0 c1_0 x7 x8
theorem T5654_0 {R0 : Int → Prop} {R1 : Prop} (Q : Ex → St → Prop) (hr0 : ∀ x4, R0 x4 → Of (Q (Ex.ret) (X5654_0_0 x4))) (hr1 :  R1 → Of (Q (Ex.exit (nat_lit 0)) (X5654_0_1))) : ∀ (n : Nat) (l0 : List (K.ty k45)) (c1_0 : K.ty k45) (x7 : Int) (x8 : Int), G5654_0 R0 R1 n l0 c1_0 x7 x8 → Of (loopP (awp tt E56 A56 L5654_0 0) ([(0 : Nat), (1 : Nat), (7 : Nat), (8 : Nat)], [], [(4 : Nat)]) n (S5654_0 l0 c1_0 x7 x8) Q) := by
  intro n
  induction n with
  | zero => intro l0 c1_0 x7 x8 h; exact h.elim
  | succ n ih =>
    intro l0 c1_0 x7 x8 h
    exact kcO (t5654_0_eq n Q l0 c1_0 x7 x8) (t5654_0_mono (fun _ _ _ _ h => (ih _ _ _ _ h).out) (fun _ h => (hr0 _ h).out) (fun h => (hr1 h).out) l0 c1_0 x7 x8 h)
def t5654 (Q : List V1 → List Ob → Prop) (lp0 : List Rung → Rung → Prop) (l : List Rung) (x : Rung) : Prop :=
  lp0 l x
theorem t5654_mono {Q : List V1 → List Ob → Prop} {Q' : List V1 → List Ob → Prop} {lp0 : List Rung → Rung → Prop} {lp0' : List Rung → Rung → Prop} (hq : ∀ r h, Q r h → Q' r h) (hlp0 : ∀ l x, lp0 l x → lp0' l x) (l : List Rung) (x : Rung) :
    t5654 Q lp0 l x → t5654 Q' lp0' l x :=
  hlp0 _ _
theorem t5654_eq (Q : List V1 → List Ob → Prop) (l : List Rung) (x : Rung) :
    t5654 Q (fun l x => ∃ m, loopP (awp tt E56 A56 L5654_0 0) ([(0 : Nat), (1 : Nat), (7 : Nat), (8 : Nat)], [], [(4 : Nat)]) m (S5654_0 (l) (x) ((↑(List.length l) : Int)) ((0 : Int))) (blkC (0 : Nat) (seqC (awp tt E56 A56 (Code.b (Code.b (Func.code Try.f56))) (0 : Nat)) (topC tt Try.f56 0 Q)))) l x = (afun tt E56 A56 Try.f56 (I56a l x) [] Q) := by kernel_rfl
def t5654c0x1 (Q : List V1 → List Ob → Prop) (l : List Rung) (x : Rung) : Prop :=
  Q [V1.one (Lf.int IntKind.i64 (-1 : Int))] []
theorem t5654c0x1_mono {Q : List V1 → List Ob → Prop} {Q' : List V1 → List Ob → Prop} (hq : ∀ r h, Q r h → Q' r h) (l : List Rung) (x : Rung) :
    t5654c0x1 Q l x → t5654c0x1 Q' l x :=
  hq _ _
theorem t5654c0x1_eq (Q : List V1 → List Ob → Prop) (l : List Rung) (x : Rung) :
    t5654c0x1 Q l x = ((blkC (0 : Nat) (seqC (awp tt E56 A56 (Code.b (Code.b (Func.code Try.f56))) (0 : Nat)) (topC tt Try.f56 0 Q))) (Ex.exit (nat_lit 0)) (X5654_0_1)) := by kernel_rfl
def t5654c0x0 (Q : List V1 → List Ob → Prop) (l : List Rung) (x : Rung) (x4e2 : Int) : Prop :=
  Q [V1.one (Lf.int IntKind.i64 x4e2)] []
theorem t5654c0x0_mono {Q : List V1 → List Ob → Prop} {Q' : List V1 → List Ob → Prop} (hq : ∀ r h, Q r h → Q' r h) (l : List Rung) (x : Rung) (x4e2 : Int) :
    t5654c0x0 Q l x x4e2 → t5654c0x0 Q' l x x4e2 :=
  hq _ _
theorem t5654c0x0_eq (Q : List V1 → List Ob → Prop) (l : List Rung) (x : Rung) (x4e2 : Int) :
    t5654c0x0 Q l x x4e2 = ((blkC (0 : Nat) (seqC (awp tt E56 A56 (Code.b (Code.b (Func.code Try.f56))) (0 : Nat)) (topC tt Try.f56 0 Q))) (Ex.ret) (X5654_0_0 x4e2)) := by kernel_rfl
def H5654 (Q : List V1 → List Ob → Prop) (l : List Rung) (x : Rung) : Prop := t5654 Q (fun l x => ∃ m, G5654_0 (fun x4e2 => t5654c0x0 Q l x x4e2) ( t5654c0x1 Q l x) m (l) (x) ((↑(List.length l) : Int)) ((0 : Int))) l x
theorem ok5654 (Q : List V1 → List Ob → Prop) (l : List Rung) (x : Rung) (h : H5654 Q l x) : Of (afun tt E56 A56 Try.f56 (I56a l x) [] Q) :=
  kcO (t5654_eq Q l x) (t5654_mono (fun _ _ h => h) (fun l x ⟨m, h⟩ => ⟨m, (T5654_0 _ (fun x4e2 h => kcO (t5654c0x0_eq _ _ _ _) (t5654c0x0_mono (fun _ _ h => h) _ _ _ h)) (fun h => kcO (t5654c0x1_eq _ _ _) (t5654c0x1_mono (fun _ _ h => h) _ _ h)) m _ _ _ _ h).out⟩) l x h)
def I56b (l : List Rung) (x : Rung) : List V1 := [nfK kR l, .one (.clo 38 [.imm k45 x])]
noncomputable def L5638_0 : Code := Code.a (Code.a (Code.b (Code.a (Code.b (Func.code Try.f56)))))
def S5638_0 (l0 : List (K.ty k45)) (c1_0 : K.ty k45) (x7 : Int) (x8 : Int) : St := sp (19 : Nat) [((0 : Nat), V.v (V1.one (Lf.sl (46 : TypeId) k45 l0))), ((1 : Nat), V.v (V1.one (Lf.clo (38 : FuncId) [Cap.imm k45 c1_0]))), ((7 : Nat), V.v (V1.one (Lf.int IntKind.i64 x7))), ((8 : Nat), V.v (V1.one (Lf.int IntKind.i64 x8)))] []
def X5638_0_0 (x4 : Int) : St := sp (19 : Nat) [((4 : Nat), V.v (V1.one (Lf.int IntKind.i64 x4)))] []
def X5638_0_1 : St := sp (19 : Nat) [] []
def t5638_0 (again : List (K.ty k45) → K.ty k45 → Int → Int → Prop) (R0 : Int → Prop) (R1 : Prop) (l0 : List (K.ty k45)) (c1_0 : K.ty k45) (x7 : Int) (x8 : Int) : Prop :=
  brP (decide (x8 < x7)) (bound x8 (List.length l0) ∧ brP (decide (Rung.label (getE k45 l0 x8) = Rung.jump c1_0)) (R0 x8) (again l0 c1_0 x7 (IntKind.wrap IntKind.i64 (x8 + (1 : Int))))) R1
theorem t5638_0_mono {again : List (K.ty k45) → K.ty k45 → Int → Int → Prop} {R0 : Int → Prop} {R1 : Prop} {again' : List (K.ty k45) → K.ty k45 → Int → Int → Prop} {R0' : Int → Prop} {R1' : Prop} (ha : ∀ l0 c1_0 x7 x8, again l0 c1_0 x7 x8 → again' l0 c1_0 x7 x8) (hr0 : ∀ x4, R0 x4 → R0' x4) (hr1 :  R1 → R1') (l0 : List (K.ty k45)) (c1_0 : K.ty k45) (x7 : Int) (x8 : Int) :
    t5638_0 again R0 R1 l0 c1_0 x7 x8 → t5638_0 again' R0' R1' l0 c1_0 x7 x8 :=
  brM (andM (id) (brM (hr0 _) (ha _ _ _ _))) (hr1)
theorem t5638_0_eq (n : Nat) (Q : Ex → St → Prop) (l0 : List (K.ty k45)) (c1_0 : K.ty k45) (x7 : Int) (x8 : Int) :
    t5638_0 (fun l0 c1_0 x7 x8 => loopP (awp tt E56 A56 L5638_0 0) ([(0 : Nat), (1 : Nat), (7 : Nat), (8 : Nat)], [], [(4 : Nat)]) n (S5638_0 l0 c1_0 x7 x8) Q) (fun x4 => Q (Ex.ret) (X5638_0_0 x4)) ( Q (Ex.exit (nat_lit 0)) (X5638_0_1)) l0 c1_0 x7 x8 = (loopP (awp tt E56 A56 L5638_0 0) ([(0 : Nat), (1 : Nat), (7 : Nat), (8 : Nat)], [], [(4 : Nat)]) (n + 1) (S5638_0 l0 c1_0 x7 x8) Q) := by kernel_rfl
def G5638_0 (R0 : Int → Prop) (R1 : Prop) : Nat → List (K.ty k45) → K.ty k45 → Int → Int → Prop
  | 0, _, _, _, _ => False
  | n + 1, l0, c1_0, x7, x8 => t5638_0 (G5638_0 R0 R1 n) R0 R1 l0 c1_0 x7 x8
theorem T5638_0 {R0 : Int → Prop} {R1 : Prop} (Q : Ex → St → Prop) (hr0 : ∀ x4, R0 x4 → Of (Q (Ex.ret) (X5638_0_0 x4))) (hr1 :  R1 → Of (Q (Ex.exit (nat_lit 0)) (X5638_0_1))) : ∀ (n : Nat) (l0 : List (K.ty k45)) (c1_0 : K.ty k45) (x7 : Int) (x8 : Int), G5638_0 R0 R1 n l0 c1_0 x7 x8 → Of (loopP (awp tt E56 A56 L5638_0 0) ([(0 : Nat), (1 : Nat), (7 : Nat), (8 : Nat)], [], [(4 : Nat)]) n (S5638_0 l0 c1_0 x7 x8) Q) := by
  intro n
  induction n with
  | zero => intro l0 c1_0 x7 x8 h; exact h.elim
  | succ n ih =>
    intro l0 c1_0 x7 x8 h
    exact kcO (t5638_0_eq n Q l0 c1_0 x7 x8) (t5638_0_mono (fun _ _ _ _ h => (ih _ _ _ _ h).out) (fun _ h => (hr0 _ h).out) (fun h => (hr1 h).out) l0 c1_0 x7 x8 h)
def t5638 (Q : List V1 → List Ob → Prop) (lp0 : List Rung → Rung → Prop) (l : List Rung) (x : Rung) : Prop :=
  lp0 l x
theorem t5638_mono {Q : List V1 → List Ob → Prop} {Q' : List V1 → List Ob → Prop} {lp0 : List Rung → Rung → Prop} {lp0' : List Rung → Rung → Prop} (hq : ∀ r h, Q r h → Q' r h) (hlp0 : ∀ l x, lp0 l x → lp0' l x) (l : List Rung) (x : Rung) :
    t5638 Q lp0 l x → t5638 Q' lp0' l x :=
  hlp0 _ _
theorem t5638_eq (Q : List V1 → List Ob → Prop) (l : List Rung) (x : Rung) :
    t5638 Q (fun l x => ∃ m, loopP (awp tt E56 A56 L5638_0 0) ([(0 : Nat), (1 : Nat), (7 : Nat), (8 : Nat)], [], [(4 : Nat)]) m (S5638_0 (l) (x) ((↑(List.length l) : Int)) ((0 : Int))) (blkC (0 : Nat) (seqC (awp tt E56 A56 (Code.b (Code.b (Func.code Try.f56))) (0 : Nat)) (topC tt Try.f56 0 Q)))) l x = (afun tt E56 A56 Try.f56 (I56b l x) [] Q) := by kernel_rfl
def t5638c0x1 (Q : List V1 → List Ob → Prop) (l : List Rung) (x : Rung) : Prop :=
  Q [V1.one (Lf.int IntKind.i64 (-1 : Int))] []
theorem t5638c0x1_mono {Q : List V1 → List Ob → Prop} {Q' : List V1 → List Ob → Prop} (hq : ∀ r h, Q r h → Q' r h) (l : List Rung) (x : Rung) :
    t5638c0x1 Q l x → t5638c0x1 Q' l x :=
  hq _ _
theorem t5638c0x1_eq (Q : List V1 → List Ob → Prop) (l : List Rung) (x : Rung) :
    t5638c0x1 Q l x = ((blkC (0 : Nat) (seqC (awp tt E56 A56 (Code.b (Code.b (Func.code Try.f56))) (0 : Nat)) (topC tt Try.f56 0 Q))) (Ex.exit (nat_lit 0)) (X5638_0_1)) := by kernel_rfl
def t5638c0x0 (Q : List V1 → List Ob → Prop) (l : List Rung) (x : Rung) (x4e2 : Int) : Prop :=
  Q [V1.one (Lf.int IntKind.i64 x4e2)] []
theorem t5638c0x0_mono {Q : List V1 → List Ob → Prop} {Q' : List V1 → List Ob → Prop} (hq : ∀ r h, Q r h → Q' r h) (l : List Rung) (x : Rung) (x4e2 : Int) :
    t5638c0x0 Q l x x4e2 → t5638c0x0 Q' l x x4e2 :=
  hq _ _
theorem t5638c0x0_eq (Q : List V1 → List Ob → Prop) (l : List Rung) (x : Rung) (x4e2 : Int) :
    t5638c0x0 Q l x x4e2 = ((blkC (0 : Nat) (seqC (awp tt E56 A56 (Code.b (Code.b (Func.code Try.f56))) (0 : Nat)) (topC tt Try.f56 0 Q))) (Ex.ret) (X5638_0_0 x4e2)) := by kernel_rfl
def H5638 (Q : List V1 → List Ob → Prop) (l : List Rung) (x : Rung) : Prop := t5638 Q (fun l x => ∃ m, G5638_0 (fun x4e2 => t5638c0x0 Q l x x4e2) ( t5638c0x1 Q l x) m (l) (x) ((↑(List.length l) : Int)) ((0 : Int))) l x
theorem ok5638 (Q : List V1 → List Ob → Prop) (l : List Rung) (x : Rung) (h : H5638 Q l x) : Of (afun tt E56 A56 Try.f56 (I56b l x) [] Q) :=
  kcO (t5638_eq Q l x) (t5638_mono (fun _ _ h => h) (fun l x ⟨m, h⟩ => ⟨m, (T5638_0 _ (fun x4e2 h => kcO (t5638c0x0_eq _ _ _ _) (t5638c0x0_mono (fun _ _ h => h) _ _ _ h)) (fun h => kcO (t5638c0x1_eq _ _ _) (t5638c0x1_mono (fun _ _ h => h) _ _ h)) m _ _ _ _ h).out⟩) l x h)
def I56c (l : List Rung) (y : Lad) (i : Int) : List V1 := [nfK kR l, .one (.clo 57 [.imm k23 y, .imm ki i])]
noncomputable def L5657_0 : Code := Code.a (Code.a (Code.b (Code.a (Code.b (Func.code Try.f56)))))
def S5657_0 (l0 : List (K.ty k45)) (c1_0 : K.ty k23) (c1_1 : K.ty ki) (x7 : Int) (x8 : Int) : St := sp (19 : Nat) [((0 : Nat), V.v (V1.one (Lf.sl (46 : TypeId) k45 l0))), ((1 : Nat), V.v (V1.one (Lf.clo (57 : FuncId) [Cap.imm k23 c1_0, Cap.imm ki c1_1]))), ((7 : Nat), V.v (V1.one (Lf.int IntKind.i64 x7))), ((8 : Nat), V.v (V1.one (Lf.int IntKind.i64 x8)))] []
def X5657_0_0 (x4 : Int) : St := sp (19 : Nat) [((4 : Nat), V.v (V1.one (Lf.int IntKind.i64 x4)))] []
def X5657_0_1 : St := sp (19 : Nat) [] []
def t5657_0 (again : List (K.ty k45) → K.ty k23 → K.ty ki → Int → Int → Prop) (R0 : Int → Prop) (R1 : Prop) (l0 : List (K.ty k45)) (c1_0 : K.ty k23) (c1_1 : K.ty ki) (x7 : Int) (x8 : Int) : Prop :=
  brP (decide (x8 < x7)) (bound x8 (List.length l0) ∧ bound c1_1 (List.length (Lad.rungs c1_0)) ∧ brP (decide (Rung.label (getE k45 l0 x8) = jumpAt c1_0 c1_1)) (R0 x8) (again l0 c1_0 c1_1 x7 (IntKind.wrap IntKind.i64 (x8 + (1 : Int))))) R1
theorem t5657_0_mono {again : List (K.ty k45) → K.ty k23 → K.ty ki → Int → Int → Prop} {R0 : Int → Prop} {R1 : Prop} {again' : List (K.ty k45) → K.ty k23 → K.ty ki → Int → Int → Prop} {R0' : Int → Prop} {R1' : Prop} (ha : ∀ l0 c1_0 c1_1 x7 x8, again l0 c1_0 c1_1 x7 x8 → again' l0 c1_0 c1_1 x7 x8) (hr0 : ∀ x4, R0 x4 → R0' x4) (hr1 :  R1 → R1') (l0 : List (K.ty k45)) (c1_0 : K.ty k23) (c1_1 : K.ty ki) (x7 : Int) (x8 : Int) :
    t5657_0 again R0 R1 l0 c1_0 c1_1 x7 x8 → t5657_0 again' R0' R1' l0 c1_0 c1_1 x7 x8 :=
  brM (andM (id) (andM (id) (brM (hr0 _) (ha _ _ _ _ _)))) (hr1)
theorem t5657_0_eq (n : Nat) (Q : Ex → St → Prop) (l0 : List (K.ty k45)) (c1_0 : K.ty k23) (c1_1 : K.ty ki) (x7 : Int) (x8 : Int) :
    t5657_0 (fun l0 c1_0 c1_1 x7 x8 => loopP (awp tt E56 A56 L5657_0 0) ([(0 : Nat), (1 : Nat), (7 : Nat), (8 : Nat)], [], [(4 : Nat)]) n (S5657_0 l0 c1_0 c1_1 x7 x8) Q) (fun x4 => Q (Ex.ret) (X5657_0_0 x4)) ( Q (Ex.exit (nat_lit 0)) (X5657_0_1)) l0 c1_0 c1_1 x7 x8 = (loopP (awp tt E56 A56 L5657_0 0) ([(0 : Nat), (1 : Nat), (7 : Nat), (8 : Nat)], [], [(4 : Nat)]) (n + 1) (S5657_0 l0 c1_0 c1_1 x7 x8) Q) := by kernel_rfl
def G5657_0 (R0 : Int → Prop) (R1 : Prop) : Nat → List (K.ty k45) → K.ty k23 → K.ty ki → Int → Int → Prop
  | 0, _, _, _, _, _ => False
  | n + 1, l0, c1_0, c1_1, x7, x8 => t5657_0 (G5657_0 R0 R1 n) R0 R1 l0 c1_0 c1_1 x7 x8
theorem T5657_0 {R0 : Int → Prop} {R1 : Prop} (Q : Ex → St → Prop) (hr0 : ∀ x4, R0 x4 → Of (Q (Ex.ret) (X5657_0_0 x4))) (hr1 :  R1 → Of (Q (Ex.exit (nat_lit 0)) (X5657_0_1))) : ∀ (n : Nat) (l0 : List (K.ty k45)) (c1_0 : K.ty k23) (c1_1 : K.ty ki) (x7 : Int) (x8 : Int), G5657_0 R0 R1 n l0 c1_0 c1_1 x7 x8 → Of (loopP (awp tt E56 A56 L5657_0 0) ([(0 : Nat), (1 : Nat), (7 : Nat), (8 : Nat)], [], [(4 : Nat)]) n (S5657_0 l0 c1_0 c1_1 x7 x8) Q) := by
  intro n
  induction n with
  | zero => intro l0 c1_0 c1_1 x7 x8 h; exact h.elim
  | succ n ih =>
    intro l0 c1_0 c1_1 x7 x8 h
    exact kcO (t5657_0_eq n Q l0 c1_0 c1_1 x7 x8) (t5657_0_mono (fun _ _ _ _ _ h => (ih _ _ _ _ _ h).out) (fun _ h => (hr0 _ h).out) (fun h => (hr1 h).out) l0 c1_0 c1_1 x7 x8 h)
def t5657 (Q : List V1 → List Ob → Prop) (lp0 : List Rung → Lad → Int → Prop) (l : List Rung) (y : Lad) (i : Int) : Prop :=
  lp0 l y i
theorem t5657_mono {Q : List V1 → List Ob → Prop} {Q' : List V1 → List Ob → Prop} {lp0 : List Rung → Lad → Int → Prop} {lp0' : List Rung → Lad → Int → Prop} (hq : ∀ r h, Q r h → Q' r h) (hlp0 : ∀ l y i, lp0 l y i → lp0' l y i) (l : List Rung) (y : Lad) (i : Int) :
    t5657 Q lp0 l y i → t5657 Q' lp0' l y i :=
  hlp0 _ _ _
theorem t5657_eq (Q : List V1 → List Ob → Prop) (l : List Rung) (y : Lad) (i : Int) :
    t5657 Q (fun l y i => ∃ m, loopP (awp tt E56 A56 L5657_0 0) ([(0 : Nat), (1 : Nat), (7 : Nat), (8 : Nat)], [], [(4 : Nat)]) m (S5657_0 (l) (y) (i) ((↑(List.length l) : Int)) ((0 : Int))) (blkC (0 : Nat) (seqC (awp tt E56 A56 (Code.b (Code.b (Func.code Try.f56))) (0 : Nat)) (topC tt Try.f56 0 Q)))) l y i = (afun tt E56 A56 Try.f56 (I56c l y i) [] Q) := by kernel_rfl
def t5657c0x1 (Q : List V1 → List Ob → Prop) (l : List Rung) (y : Lad) (i : Int) : Prop :=
  Q [V1.one (Lf.int IntKind.i64 (-1 : Int))] []
theorem t5657c0x1_mono {Q : List V1 → List Ob → Prop} {Q' : List V1 → List Ob → Prop} (hq : ∀ r h, Q r h → Q' r h) (l : List Rung) (y : Lad) (i : Int) :
    t5657c0x1 Q l y i → t5657c0x1 Q' l y i :=
  hq _ _
theorem t5657c0x1_eq (Q : List V1 → List Ob → Prop) (l : List Rung) (y : Lad) (i : Int) :
    t5657c0x1 Q l y i = ((blkC (0 : Nat) (seqC (awp tt E56 A56 (Code.b (Code.b (Func.code Try.f56))) (0 : Nat)) (topC tt Try.f56 0 Q))) (Ex.exit (nat_lit 0)) (X5657_0_1)) := by kernel_rfl
def t5657c0x0 (Q : List V1 → List Ob → Prop) (l : List Rung) (y : Lad) (i : Int) (x4e3 : Int) : Prop :=
  Q [V1.one (Lf.int IntKind.i64 x4e3)] []
theorem t5657c0x0_mono {Q : List V1 → List Ob → Prop} {Q' : List V1 → List Ob → Prop} (hq : ∀ r h, Q r h → Q' r h) (l : List Rung) (y : Lad) (i : Int) (x4e3 : Int) :
    t5657c0x0 Q l y i x4e3 → t5657c0x0 Q' l y i x4e3 :=
  hq _ _
theorem t5657c0x0_eq (Q : List V1 → List Ob → Prop) (l : List Rung) (y : Lad) (i : Int) (x4e3 : Int) :
    t5657c0x0 Q l y i x4e3 = ((blkC (0 : Nat) (seqC (awp tt E56 A56 (Code.b (Code.b (Func.code Try.f56))) (0 : Nat)) (topC tt Try.f56 0 Q))) (Ex.ret) (X5657_0_0 x4e3)) := by kernel_rfl
def H5657 (Q : List V1 → List Ob → Prop) (l : List Rung) (y : Lad) (i : Int) : Prop := t5657 Q (fun l y i => ∃ m, G5657_0 (fun x4e3 => t5657c0x0 Q l y i x4e3) ( t5657c0x1 Q l y i) m (l) (y) (i) ((↑(List.length l) : Int)) ((0 : Int))) l y i
theorem ok5657 (Q : List V1 → List Ob → Prop) (l : List Rung) (y : Lad) (i : Int) (h : H5657 Q l y i) : Of (afun tt E56 A56 Try.f56 (I56c l y i) [] Q) :=
  kcO (t5657_eq Q l y i) (t5657_mono (fun _ _ h => h) (fun l y i ⟨m, h⟩ => ⟨m, (T5657_0 _ (fun x4e3 h => kcO (t5657c0x0_eq _ _ _ _ _) (t5657c0x0_mono (fun _ _ h => h) _ _ _ _ h)) (fun h => kcO (t5657c0x1_eq _ _ _ _) (t5657c0x1_mono (fun _ _ h => h) _ _ _ h)) m _ _ _ _ _ h).out⟩) l y i h)
def A37 : Ann := []
def E37 : Env := [(56, sp56)]
def t3754 (Q : List V1 → List Ob → Prop) (l : List Rung) (x : Rung) : Prop :=
  List.length l ≤ (4611686018427387904 : Nat) ∧ Q [V1.one (Lf.bool (decide (idxP (fun (r : Rung) => decide (Rung.label r = Rung.label x)) l (0 : Nat) ≥ (0 : Int))))] []
theorem t3754_mono {Q : List V1 → List Ob → Prop} {Q' : List V1 → List Ob → Prop} (hq : ∀ r h, Q r h → Q' r h) (l : List Rung) (x : Rung) :
    t3754 Q l x → t3754 Q' l x :=
  andM (id) (hq _ _)
theorem t3754_eq (Q : List V1 → List Ob → Prop) (l : List Rung) (x : Rung) :
    t3754 Q l x = (afun tt E37 A37 Try.f37 (I56a l x) [] Q) := by kernel_rfl
def H3754 (Q : List V1 → List Ob → Prop) (l : List Rung) (x : Rung) : Prop := t3754 Q l x
theorem ok3754 (Q : List V1 → List Ob → Prop) (l : List Rung) (x : Rung) (h : H3754 Q l x) : Of (afun tt E37 A37 Try.f37 (I56a l x) [] Q) :=
  kcO (t3754_eq Q l x) (t3754_mono (fun _ _ h => h) l x h)
def t3738 (Q : List V1 → List Ob → Prop) (l : List Rung) (x : Rung) : Prop :=
  List.length l ≤ (4611686018427387904 : Nat) ∧ Q [V1.one (Lf.bool (decide (idxP (fun (r : Rung) => decide (Rung.label r = Rung.jump x)) l (0 : Nat) ≥ (0 : Int))))] []
theorem t3738_mono {Q : List V1 → List Ob → Prop} {Q' : List V1 → List Ob → Prop} (hq : ∀ r h, Q r h → Q' r h) (l : List Rung) (x : Rung) :
    t3738 Q l x → t3738 Q' l x :=
  andM (id) (hq _ _)
theorem t3738_eq (Q : List V1 → List Ob → Prop) (l : List Rung) (x : Rung) :
    t3738 Q l x = (afun tt E37 A37 Try.f37 (I56b l x) [] Q) := by kernel_rfl
def H3738 (Q : List V1 → List Ob → Prop) (l : List Rung) (x : Rung) : Prop := t3738 Q l x
theorem ok3738 (Q : List V1 → List Ob → Prop) (l : List Rung) (x : Rung) (h : H3738 Q l x) : Of (afun tt E37 A37 Try.f37 (I56b l x) [] Q) :=
  kcO (t3738_eq Q l x) (t3738_mono (fun _ _ h => h) l x h)
def t3757 (Q : List V1 → List Ob → Prop) (l : List Rung) (y : Lad) (i : Int) : Prop :=
  bound i (List.length (Lad.rungs y)) ∧ List.length l ≤ (4611686018427387904 : Nat) ∧ Q [V1.one (Lf.bool (decide (idxP (fun (r : Rung) => decide (Rung.label r = jumpAt y i)) l (0 : Nat) ≥ (0 : Int))))] []
theorem t3757_mono {Q : List V1 → List Ob → Prop} {Q' : List V1 → List Ob → Prop} (hq : ∀ r h, Q r h → Q' r h) (l : List Rung) (y : Lad) (i : Int) :
    t3757 Q l y i → t3757 Q' l y i :=
  andM (id) (andM (id) (hq _ _))
theorem t3757_eq (Q : List V1 → List Ob → Prop) (l : List Rung) (y : Lad) (i : Int) :
    t3757 Q l y i = (afun tt E37 A37 Try.f37 (I56c l y i) [] Q) := by kernel_rfl
def H3757 (Q : List V1 → List Ob → Prop) (l : List Rung) (y : Lad) (i : Int) : Prop := t3757 Q l y i
theorem ok3757 (Q : List V1 → List Ob → Prop) (l : List Rung) (y : Lad) (i : Int) (h : H3757 Q l y i) : Of (afun tt E37 A37 Try.f37 (I56c l y i) [] Q) :=
  kcO (t3757_eq Q l y i) (t3757_mono (fun _ _ h => h) l y i h)
theorem env56 : EnvOk Try.prog E56 := .cons spec54 (by kernel_rfl) <| .cons spec38 (by kernel_rfl) <| .cons spec57 (by kernel_rfl) <| .nil
theorem idxP_drop {p : Rung → Bool} {l : List Rung} {i : Nat} (h : i < l.length) : idxP p (l.drop i) i = bif p (getE k45 l i) then (i : Int) else idxP p (l.drop (i + 1)) (i + 1) := by
  rw [getE_cons k45 l i h]; rfl
theorem loop5654 (l : List Rung) (x : Rung) (R0 : Int → Prop) (R1 : Prop) (hl : l.length ≤ 4611686018427387904) : ∀ n (i : Nat), l.length - i < n → i ≤ l.length →
    (idxP (fun r => decide (Rung.label r = Rung.label x)) (l.drop i) i = -1 → R1) → (∀ k, 0 ≤ k → idxP (fun r => decide (Rung.label r = Rung.label x)) (l.drop i) i = k → R0 k) → G5654_0 R0 R1 n l x l.length i := by
  intro n
  induction n with
  | zero => intro i h; omega
  | succ n ih =>
    intro i hn hi h1 h0
    refine brP_intro (fun c => ?_) (fun c => ?_)
    · have c : i < l.length := by simpa using c
      rw [idxP_drop c] at h1 h0
      refine ⟨⟨by omega, by omega⟩, ?_⟩
      refine brP_intro (fun d => h0 i (by omega) (by rw [d]; rfl)) (fun d => ?_)
      rw [d] at h1 h0
      rw [wrap_in (by omega) (by omega)]
      exact ih (i + 1) (by omega) (by omega) h1 h0
    · have c : ¬ i < l.length := by simpa using c
      exact h1 (by rw [List.drop_of_length_le (by omega)]; rfl)
theorem loop5638 (l : List Rung) (x : Rung) (R0 : Int → Prop) (R1 : Prop) (hl : l.length ≤ 4611686018427387904) : ∀ n (i : Nat), l.length - i < n → i ≤ l.length →
    (idxP (fun r => decide (Rung.label r = Rung.jump x)) (l.drop i) i = -1 → R1) → (∀ k, 0 ≤ k → idxP (fun r => decide (Rung.label r = Rung.jump x)) (l.drop i) i = k → R0 k) → G5638_0 R0 R1 n l x l.length i := by
  intro n
  induction n with
  | zero => intro i h; omega
  | succ n ih =>
    intro i hn hi h1 h0
    refine brP_intro (fun c => ?_) (fun c => ?_)
    · have c : i < l.length := by simpa using c
      rw [idxP_drop c] at h1 h0
      refine ⟨⟨by omega, by omega⟩, ?_⟩
      refine brP_intro (fun d => h0 i (by omega) (by rw [d]; rfl)) (fun d => ?_)
      rw [d] at h1 h0
      rw [wrap_in (by omega) (by omega)]
      exact ih (i + 1) (by omega) (by omega) h1 h0
    · have c : ¬ i < l.length := by simpa using c
      exact h1 (by rw [List.drop_of_length_le (by omega)]; rfl)
theorem loop5657 (l : List Rung) (y : Lad) (j : Int) (hj : bound j (Lad.rungs y).length) (R0 : Int → Prop) (R1 : Prop) (hl : l.length ≤ 4611686018427387904) : ∀ n (i : Nat), l.length - i < n → i ≤ l.length →
    (idxP (fun r => decide (Rung.label r = jumpAt y j)) (l.drop i) i = -1 → R1) → (∀ k, 0 ≤ k → idxP (fun r => decide (Rung.label r = jumpAt y j)) (l.drop i) i = k → R0 k) → G5657_0 R0 R1 n l y j l.length i := by
  intro n
  induction n with
  | zero => intro i h; omega
  | succ n ih =>
    intro i hn hi h1 h0
    refine brP_intro (fun c => ?_) (fun c => ?_)
    · have c : i < l.length := by simpa using c
      rw [idxP_drop c] at h1 h0
      refine ⟨⟨by omega, by omega⟩, hj, ?_⟩
      refine brP_intro (fun d => h0 i (by omega) (by rw [d]; rfl)) (fun d => ?_)
      rw [d] at h1 h0
      rw [wrap_in (by omega) (by omega)]
      exact ih (i + 1) (by omega) (by omega) h1 h0
    · have c : ¬ i < l.length := by simpa using c
      exact h1 (by rw [List.drop_of_length_le (by omega)]; rfl)
theorem cloK_cases {f : FuncId} {caps : List Cap} {Q : (Rung → Bool) → Prop} (h : cloK f caps Q) :
    (∃ x, f = 54 ∧ caps = [.imm k45 x] ∧ Q fun r => decide (Rung.label r = Rung.label x)) ∨ (∃ x, f = 38 ∧ caps = [.imm k45 x] ∧ Q fun r => decide (Rung.label r = Rung.jump x)) ∨
    (∃ l i, f = 57 ∧ caps = [.imm k23 l, .imm ki i] ∧ bound i (Lad.rungs l).length ∧ Q fun r => decide (Rung.label r = jumpAt l i)) := by
  unfold cloK at h
  split at h
  · obtain ⟨e, h⟩ := atK_iff h
    subst e
    exact .inl ⟨_, rfl, rfl, h⟩
  · obtain ⟨e, h⟩ := atK_iff h
    subst e
    exact .inr (.inl ⟨_, rfl, rfl, h⟩)
  · obtain ⟨e, h⟩ := atK_iff h
    subst e
    obtain ⟨e, h⟩ := atK_iff h
    subst e
    exact .inr (.inr ⟨_, _, rfl, rfl, h.1, h.2⟩)
  · exact h.elim
theorem spec56 : SpecOk Try.prog 56 sp56 := by
  refine (afun_sound tt_ok env56 mixed (A := A56) Try.func56).data2 fun args hp Q hq => ?_
  unfold sp56 at hq
  split at hq
  · rename_i v f caps
    obtain ⟨l, hl, hq⟩ := dK_iff hq
    rcases cloK_cases hq with ⟨x, rfl, rfl, hn, hq⟩ | ⟨x, rfl, rfl, hn, hq⟩ | ⟨y, j, rfl, rfl, hj, hn, hq⟩
    · refine ⟨rfl, I56a l x, ⟨.inr ⟨kR, l, hl.1, hl.2, rfl⟩, .inl rfl, trivial⟩, (ok5654 Q l x ?_).out⟩
      exact ⟨l.length + 1, loop5654 l x _ _ hn _ 0 (by omega) (by omega) (fun h => by rw [show idxP _ l 0 = -1 from h] at hq; exact hq) (fun k _ h => by rw [show idxP _ l 0 = k from h] at hq; exact hq)⟩
    · refine ⟨rfl, I56b l x, ⟨.inr ⟨kR, l, hl.1, hl.2, rfl⟩, .inl rfl, trivial⟩, (ok5638 Q l x ?_).out⟩
      exact ⟨l.length + 1, loop5638 l x _ _ hn _ 0 (by omega) (by omega) (fun h => by rw [show idxP _ l 0 = -1 from h] at hq; exact hq) (fun k _ h => by rw [show idxP _ l 0 = k from h] at hq; exact hq)⟩
    · refine ⟨rfl, I56c l y j, ⟨.inr ⟨kR, l, hl.1, hl.2, rfl⟩, .inl rfl, trivial⟩, (ok5657 Q l y j ?_).out⟩
      exact ⟨l.length + 1, loop5657 l y j hj _ _ hn _ 0 (by omega) (by omega) (fun h => by rw [show idxP _ l 0 = -1 from h] at hq; exact hq) (fun k _ h => by rw [show idxP _ l 0 = k from h] at hq; exact hq)⟩
  · exact hq.elim
theorem env37 : EnvOk Try.prog E37 := .cons spec56 (by kernel_rfl) .nil
theorem spec37 : SpecOk Try.prog 37 sp37 := by
  refine (afun_sound tt_ok env37 mixed (A := A37) Try.func37).data2 fun args hp Q hq => ?_
  unfold sp37 at hq
  split at hq
  · rename_i v f caps
    obtain ⟨l, hl, hq⟩ := dK_iff hq
    rcases cloK_cases hq with ⟨x, rfl, rfl, hn, hq⟩ | ⟨x, rfl, rfl, hn, hq⟩ | ⟨y, j, rfl, rfl, hj, hn, hq⟩
    · exact ⟨rfl, I56a l x, ⟨.inr ⟨kR, l, hl.1, hl.2, rfl⟩, .inl rfl, trivial⟩, (ok3754 Q l x ⟨hn, hq⟩).out⟩
    · exact ⟨rfl, I56b l x, ⟨.inr ⟨kR, l, hl.1, hl.2, rfl⟩, .inl rfl, trivial⟩, (ok3738 Q l x ⟨hn, hq⟩).out⟩
    · exact ⟨rfl, I56c l y j, ⟨.inr ⟨kR, l, hl.1, hl.2, rfl⟩, .inl rfl, trivial⟩, (ok3757 Q l y j ⟨hj, hn, hq⟩).out⟩
  · exact hq.elim
end Go.AM
