/- What the law's row leans on, part 3: an abstract machine over loaded code, functions of the program and their specs. Conditions: none. -/
import Derived.Below
import Derived.Deep.Draws
import Derived.Laws.MakeOwn
import Derived.OrdersHeld
import Derived.KernelRfl
import Derived.Laws.Small
import Derived.Laws.Cover3
import Derived.Laws.RangeAny
import Derived.Laws.Strings
import Derived.Great.BuildSlice
import Derived.MapKept
import Derived.Deep.LoopGhost
import Derived.OrdersIn
import Derived.TacticsIn
import Derived.RangeFuncNested
import Derived.Lib.SlicesS
import Derived.Test.YtlfelhdcokadbaaProg
import Derived.Test.YtlfelhdcokadbaaM2
set_option linter.all false
namespace Go.AM
open Go.Proofs
def A56 : Ann := [(0, [0, 1, 7, 8], [], [4])]
def E56 : Env := [(54, sp54), (38, sp38), (57, sp57)]
def I56a (l : List Rung) (x : Rung) : List V1 := [nfK kR l, .one (.clo 54 [.imm k45 x])]
noncomputable def L5654_0 : Code := Code.a (Code.a (Code.b (Code.a (Code.b (Func.code Try.f56)))))
def S5654_0 (l0 : List (K.ty k45)) (c1_0 : K.ty k45) (x7 : Int) (x8 : Int) : St := sp (19 : Nat) [((0 : Nat), V.v (V1.one (Lf.sl (46 : TypeId) k45 l0))), ((1 : Nat), V.v (V1.one (Lf.clo (54 : FuncId) [Cap.imm k45 c1_0]))), ((7 : Nat), V.v (V1.one (Lf.int IntKind.i64 x7))), ((8 : Nat), V.v (V1.one (Lf.int IntKind.i64 x8)))] []
def X5654_0_0 (x4 : Int) : St := sp (19 : Nat) [((4 : Nat), V.v (V1.one (Lf.int IntKind.i64 x4)))] []
def X5654_0_1 : St := sp (19 : Nat) [] []
def t5654_0 (again : List (K.ty k45) → K.ty k45 → Int → Int → Prop) (R0 : Int → Prop) (R1 : Prop) (l0 : List (K.ty k45)) (c1_0 : K.ty k45) (x7 : Int) (x8 : Int) : Prop :=
  brP (decide (x8 < x7)) (bound x8 (List.length l0) ∧ brP (decide (Rung.label (getE k45 l0 x8) = Rung.label c1_0)) (R0 x8) (again l0 c1_0 x7 (IntKind.wrap IntKind.i64 (x8 + (1 : Int))))) R1
theorem t5654_0_mono {again : List (K.ty k45) → K.ty k45 → Int → Int → Prop} {R0 : Int → Prop} {R1 : Prop} {again' : List (K.ty k45) → K.ty k45 → Int → Int → Prop} {R0' : Int → Prop} {R1' : Prop} (ha : ∀ l0 c1_0 x7 x8, again l0 c1_0 x7 x8 → again' l0 c1_0 x7 x8) (hr0 : ∀ x4, R0 x4 → R0' x4) (hr1 :  R1 → R1') (l0 : List (K.ty k45)) (c1_0 : K.ty k45) (x7 : Int) (x8 : Int) :
    t5654_0 again R0 R1 l0 c1_0 x7 x8 → t5654_0 again' R0' R1' l0 c1_0 x7 x8 :=
  brM (andM (id) (brM (hr0 _) (ha _ _ _ _))) (hr1)
theorem t5654_0_eq (n : Nat) (Q : Ex → St → Prop) (l0 : List (K.ty k45)) (c1_0 : K.ty k45) (x7 : Int) (x8 : Int) :
    t5654_0 (fun l0 c1_0 x7 x8 => loopP (awp tt E56 A56 L5654_0 0) ([(0 : Nat), (1 : Nat), (7 : Nat), (8 : Nat)], [], [(4 : Nat)]) n (S5654_0 l0 c1_0 x7 x8) Q) (fun x4 => Q (Ex.ret) (X5654_0_0 x4)) ( Q (Ex.exit (nat_lit 0)) (X5654_0_1)) l0 c1_0 x7 x8 = (loopP (awp tt E56 A56 L5654_0 0) ([(0 : Nat), (1 : Nat), (7 : Nat), (8 : Nat)], [], [(4 : Nat)]) (n + 1) (S5654_0 l0 c1_0 x7 x8) Q) := by kernel_rfl
def G5654_0 (R0 : Int → Prop) (R1 : Prop) : Nat → List (K.ty k45) → K.ty k45 → Int → Int → Prop
  | 0, _, _, _, _ => False
  | n + 1, l0, c1_0, x7, x8 => t5654_0 (G5654_0 R0 R1 n) R0 R1 l0 c1_0 x7 x8
theorem T5654_0 {R0 : Int → Prop} {R1 : Prop} (Q : Ex → St → Prop) (hr0 : ∀ x4, R0 x4 → Of (Q (Ex.ret) (X5654_0_0 x4))) (hr1 :  R1 → Of (Q (Ex.exit (nat_lit 0)) (X5654_0_1))) : ∀ (n : Nat) (l0 : List (K.ty k45)) (c1_0 : K.ty k45) (x7 : Int) (x8 : Int), G5654_0 R0 R1 n l0 c1_0 x7 x8 → Of (loopP (awp tt E56 A56 L5654_0 0) ([(0 : Nat), (1 : Nat), (7 : Nat), (8 : Nat)], [], [(4 : Nat)]) n (S5654_0 l0 c1_0 x7 x8) Q) := by
  intro n
  induction n with
  | zero => intro l0 c1_0 x7 x8 h; exact h.elim
  | succ n ih =>
    intro l0 c1_0 x7 x8 h
    exact kcO (t5654_0_eq n Q l0 c1_0 x7 x8) (t5654_0_mono (fun _ _ _ _ h => (ih _ _ _ _ h).out) (fun _ h => (hr0 _ h).out) (fun h => (hr1 h).out) l0 c1_0 x7 x8 h)
def t5654 (Q : List V1 → List Ob → Prop) (lp0 : List Rung → Rung → Prop) (l : List Rung) (x : Rung) : Prop :=
  lp0 l x
theorem t5654_mono {Q : List V1 → List Ob → Prop} {Q' : List V1 → List Ob → Prop} {lp0 : List Rung → Rung → Prop} {lp0' : List Rung → Rung → Prop} (hq : ∀ r h, Q r h → Q' r h) (hlp0 : ∀ l x, lp0 l x → lp0' l x) (l : List Rung) (x : Rung) :
    t5654 Q lp0 l x → t5654 Q' lp0' l x :=
  hlp0 _ _
theorem t5654_eq (Q : List V1 → List Ob → Prop) (l : List Rung) (x : Rung) :
    t5654 Q (fun l x => ∃ m, loopP (awp tt E56 A56 L5654_0 0) ([(0 : Nat), (1 : Nat), (7 : Nat), (8 : Nat)], [], [(4 : Nat)]) m (S5654_0 (l) (x) ((↑(List.length l) : Int)) ((0 : Int))) (blkC (0 : Nat) (seqC (awp tt E56 A56 (Code.b (Code.b (Func.code Try.f56))) (0 : Nat)) (topC tt Try.f56 0 Q)))) l x = (afun tt E56 A56 Try.f56 (I56a l x) [] Q) := by kernel_rfl
def t5654c0x1 (Q : List V1 → List Ob → Prop) (l : List Rung) (x : Rung) : Prop :=
  Q [V1.one (Lf.int IntKind.i64 (-1 : Int))] []
theorem t5654c0x1_mono {Q : List V1 → List Ob → Prop} {Q' : List V1 → List Ob → Prop} (hq : ∀ r h, Q r h → Q' r h) (l : List Rung) (x : Rung) :
    t5654c0x1 Q l x → t5654c0x1 Q' l x :=
  hq _ _
theorem t5654c0x1_eq (Q : List V1 → List Ob → Prop) (l : List Rung) (x : Rung) :
    t5654c0x1 Q l x = ((blkC (0 : Nat) (seqC (awp tt E56 A56 (Code.b (Code.b (Func.code Try.f56))) (0 : Nat)) (topC tt Try.f56 0 Q))) (Ex.exit (nat_lit 0)) (X5654_0_1)) := by kernel_rfl
def t5654c0x0 (Q : List V1 → List Ob → Prop) (l : List Rung) (x : Rung) (x4e2 : Int) : Prop :=
  Q [V1.one (Lf.int IntKind.i64 x4e2)] []
theorem t5654c0x0_mono {Q : List V1 → List Ob → Prop} {Q' : List V1 → List Ob → Prop} (hq : ∀ r h, Q r h → Q' r h) (l : List Rung) (x : Rung) (x4e2 : Int) :
    t5654c0x0 Q l x x4e2 → t5654c0x0 Q' l x x4e2 :=
  hq _ _
theorem t5654c0x0_eq (Q : List V1 → List Ob → Prop) (l : List Rung) (x : Rung) (x4e2 : Int) :
    t5654c0x0 Q l x x4e2 = ((blkC (0 : Nat) (seqC (awp tt E56 A56 (Code.b (Code.b (Func.code Try.f56))) (0 : Nat)) (topC tt Try.f56 0 Q))) (Ex.ret) (X5654_0_0 x4e2)) := by kernel_rfl
def H5654 (Q : List V1 → List Ob → Prop) (l : List Rung) (x : Rung) : Prop := t5654 Q (fun l x => ∃ m, G5654_0 (fun x4e2 => t5654c0x0 Q l x x4e2) ( t5654c0x1 Q l x) m (l) (x) ((↑(List.length l) : Int)) ((0 : Int))) l x
theorem ok5654 (Q : List V1 → List Ob → Prop) (l : List Rung) (x : Rung) (h : H5654 Q l x) : Of (afun tt E56 A56 Try.f56 (I56a l x) [] Q) :=
  kcO (t5654_eq Q l x) (t5654_mono (fun _ _ h => h) (fun l x ⟨m, h⟩ => ⟨m, (T5654_0 _ (fun x4e2 h => kcO (t5654c0x0_eq _ _ _ _) (t5654c0x0_mono (fun _ _ h => h) _ _ _ h)) (fun h => kcO (t5654c0x1_eq _ _ _) (t5654c0x1_mono (fun _ _ h => h) _ _ h)) m _ _ _ _ h).out⟩) l x h)
def I56b (l : List Rung) (x : Rung) : List V1 := [nfK kR l, .one (.clo 38 [.imm k45 x])]
noncomputable def L5638_0 : Code := Code.a (Code.a (Code.b (Code.a (Code.b (Func.code Try.f56)))))
def S5638_0 (l0 : List (K.ty k45)) (c1_0 : K.ty k45) (x7 : Int) (x8 : Int) : St := sp (19 : Nat) [((0 : Nat), V.v (V1.one (Lf.sl (46 : TypeId) k45 l0))), ((1 : Nat), V.v (V1.one (Lf.clo (38 : FuncId) [Cap.imm k45 c1_0]))), ((7 : Nat), V.v (V1.one (Lf.int IntKind.i64 x7))), ((8 : Nat), V.v (V1.one (Lf.int IntKind.i64 x8)))] []
def X5638_0_0 (x4 : Int) : St := sp (19 : Nat) [((4 : Nat), V.v (V1.one (Lf.int IntKind.i64 x4)))] []
def X5638_0_1 : St := sp (19 : Nat) [] []
def t5638_0 (again : List (K.ty k45) → K.ty k45 → Int → Int → Prop) (R0 : Int → Prop) (R1 : Prop) (l0 : List (K.ty k45)) (c1_0 : K.ty k45) (x7 : Int) (x8 : Int) : Prop :=
  brP (decide (x8 < x7)) (bound x8 (List.length l0) ∧ brP (decide (Rung.label (getE k45 l0 x8) = Rung.jump c1_0)) (R0 x8) (again l0 c1_0 x7 (IntKind.wrap IntKind.i64 (x8 + (1 : Int))))) R1
theorem t5638_0_mono {again : List (K.ty k45) → K.ty k45 → Int → Int → Prop} {R0 : Int → Prop} {R1 : Prop} {again' : List (K.ty k45) → K.ty k45 → Int → Int → Prop} {R0' : Int → Prop} {R1' : Prop} (ha : ∀ l0 c1_0 x7 x8, again l0 c1_0 x7 x8 → again' l0 c1_0 x7 x8) (hr0 : ∀ x4, R0 x4 → R0' x4) (hr1 :  R1 → R1') (l0 : List (K.ty k45)) (c1_0 : K.ty k45) (x7 : Int) (x8 : Int) :
    t5638_0 again R0 R1 l0 c1_0 x7 x8 → t5638_0 again' R0' R1' l0 c1_0 x7 x8 :=
  brM (andM (id) (brM (hr0 _) (ha _ _ _ _))) (hr1)
theorem t5638_0_eq (n : Nat) (Q : Ex → St → Prop) (l0 : List (K.ty k45)) (c1_0 : K.ty k45) (x7 : Int) (x8 : Int) :
    t5638_0 (fun l0 c1_0 x7 x8 => loopP (awp tt E56 A56 L5638_0 0) ([(0 : Nat), (1 : Nat), (7 : Nat), (8 : Nat)], [], [(4 : Nat)]) n (S5638_0 l0 c1_0 x7 x8) Q) (fun x4 => Q (Ex.ret) (X5638_0_0 x4)) ( Q (Ex.exit (nat_lit 0)) (X5638_0_1)) l0 c1_0 x7 x8 = (loopP (awp tt E56 A56 L5638_0 0) ([(0 : Nat), (1 : Nat), (7 : Nat), (8 : Nat)], [], [(4 : Nat)]) (n + 1) (S5638_0 l0 c1_0 x7 x8) Q) := by kernel_rfl
def G5638_0 (R0 : Int → Prop) (R1 : Prop) : Nat → List (K.ty k45) → K.ty k45 → Int → Int → Prop
  | 0, _, _, _, _ => False
  | n + 1, l0, c1_0, x7, x8 => t5638_0 (G5638_0 R0 R1 n) R0 R1 l0 c1_0 x7 x8
theorem T5638_0 {R0 : Int → Prop} {R1 : Prop} (Q : Ex → St → Prop) (hr0 : ∀ x4, R0 x4 → Of (Q (Ex.ret) (X5638_0_0 x4))) (hr1 :  R1 → Of (Q (Ex.exit (nat_lit 0)) (X5638_0_1))) : ∀ (n : Nat) (l0 : List (K.ty k45)) (c1_0 : K.ty k45) (x7 : Int) (x8 : Int), G5638_0 R0 R1 n l0 c1_0 x7 x8 → Of (loopP (awp tt E56 A56 L5638_0 0) ([(0 : Nat), (1 : Nat), (7 : Nat), (8 : Nat)], [], [(4 : Nat)]) n (S5638_0 l0 c1_0 x7 x8) Q) := by
  intro n
  induction n with
  | zero => intro l0 c1_0 x7 x8 h; exact h.elim
  | succ n ih =>
    intro l0 c1_0 x7 x8 h
    exact kcO (t5638_0_eq n Q l0 c1_0 x7 x8) (t5638_0_mono (fun _ _ _ _ h => (ih _ _ _ _ h).out) (fun _ h => (hr0 _ h).out) (fun h => (hr1 h).out) l0 c1_0 x7 x8 h)
def t5638 (Q : List V1 → List Ob → Prop) (lp0 : List Rung → Rung → Prop) (l : List Rung) (x : Rung) : Prop :=
  lp0 l x
theorem t5638_mono {Q : List V1 → List Ob → Prop} {Q' : List V1 → List Ob → Prop} {lp0 : List Rung → Rung → Prop} {lp0' : List Rung → Rung → Prop} (hq : ∀ r h, Q r h → Q' r h) (hlp0 : ∀ l x, lp0 l x → lp0' l x) (l : List Rung) (x : Rung) :
    t5638 Q lp0 l x → t5638 Q' lp0' l x :=
  hlp0 _ _
theorem t5638_eq (Q : List V1 → List Ob → Prop) (l : List Rung) (x : Rung) :
    t5638 Q (fun l x => ∃ m, loopP (awp tt E56 A56 L5638_0 0) ([(0 : Nat), (1 : Nat), (7 : Nat), (8 : Nat)], [], [(4 : Nat)]) m (S5638_0 (l) (x) ((↑(List.length l) : Int)) ((0 : Int))) (blkC (0 : Nat) (seqC (awp tt E56 A56 (Code.b (Code.b (Func.code Try.f56))) (0 : Nat)) (topC tt Try.f56 0 Q)))) l x = (afun tt E56 A56 Try.f56 (I56b l x) [] Q) := by kernel_rfl
def t5638c0x1 (Q : List V1 → List Ob → Prop) (l : List Rung) (x : Rung) : Prop :=
  Q [V1.one (Lf.int IntKind.i64 (-1 : Int))] []
theorem t5638c0x1_mono {Q : List V1 → List Ob → Prop} {Q' : List V1 → List Ob → Prop} (hq : ∀ r h, Q r h → Q' r h) (l : List Rung) (x : Rung) :
    t5638c0x1 Q l x → t5638c0x1 Q' l x :=
  hq _ _
theorem t5638c0x1_eq (Q : List V1 → List Ob → Prop) (l : List Rung) (x : Rung) :
    t5638c0x1 Q l x = ((blkC (0 : Nat) (seqC (awp tt E56 A56 (Code.b (Code.b (Func.code Try.f56))) (0 : Nat)) (topC tt Try.f56 0 Q))) (Ex.exit (nat_lit 0)) (X5638_0_1)) := by kernel_rfl
def t5638c0x0 (Q : List V1 → List Ob → Prop) (l : List Rung) (x : Rung) (x4e2 : Int) : Prop :=
  Q [V1.one (Lf.int IntKind.i64 x4e2)] []
theorem t5638c0x0_mono {Q : List V1 → List Ob → Prop} {Q' : List V1 → List Ob → Prop} (hq : ∀ r h, Q r h → Q' r h) (l : List Rung) (x : Rung) (x4e2 : Int) :
    t5638c0x0 Q l x x4e2 → t5638c0x0 Q' l x x4e2 :=
  hq _ _
theorem t5638c0x0_eq (Q : List V1 → List Ob → Prop) (l : List Rung) (x : Rung) (x4e2 : Int) :
    t5638c0x0 Q l x x4e2 = ((blkC (0 : Nat) (seqC (awp tt E56 A56 (Code.b (Code.b (Func.code Try.f56))) (0 : Nat)) (topC tt Try.f56 0 Q))) (Ex.ret) (X5638_0_0 x4e2)) := by kernel_rfl
def H5638 (Q : List V1 → List Ob → Prop) (l : List Rung) (x : Rung) : Prop := t5638 Q (fun l x => ∃ m, G5638_0 (fun x4e2 => t5638c0x0 Q l x x4e2) ( t5638c0x1 Q l x) m (l) (x) ((↑(List.length l) : Int)) ((0 : Int))) l x
theorem ok5638 (Q : List V1 → List Ob → Prop) (l : List Rung) (x : Rung) (h : H5638 Q l x) : Of (afun tt E56 A56 Try.f56 (I56b l x) [] Q) :=
  kcO (t5638_eq Q l x) (t5638_mono (fun _ _ h => h) (fun l x ⟨m, h⟩ => ⟨m, (T5638_0 _ (fun x4e2 h => kcO (t5638c0x0_eq _ _ _ _) (t5638c0x0_mono (fun _ _ h => h) _ _ _ h)) (fun h => kcO (t5638c0x1_eq _ _ _) (t5638c0x1_mono (fun _ _ h => h) _ _ h)) m _ _ _ _ h).out⟩) l x h)
def I56c (l : List Rung) (y : Lad) (i : Int) : List V1 := [nfK kR l, .one (.clo 57 [.imm k23 y, .imm ki i])]
noncomputable def L5657_0 : Code := Code.a (Code.a (Code.b (Code.a (Code.b (Func.code Try.f56)))))
def S5657_0 (l0 : List (K.ty k45)) (c1_0 : K.ty k23) (c1_1 : K.ty ki) (x7 : Int) (x8 : Int) : St := sp (19 : Nat) [((0 : Nat), V.v (V1.one (Lf.sl (46 : TypeId) k45 l0))), ((1 : Nat), V.v (V1.one (Lf.clo (57 : FuncId) [Cap.imm k23 c1_0, Cap.imm ki c1_1]))), ((7 : Nat), V.v (V1.one (Lf.int IntKind.i64 x7))), ((8 : Nat), V.v (V1.one (Lf.int IntKind.i64 x8)))] []
def X5657_0_0 (x4 : Int) : St := sp (19 : Nat) [((4 : Nat), V.v (V1.one (Lf.int IntKind.i64 x4)))] []
def X5657_0_1 : St := sp (19 : Nat) [] []
def t5657_0 (again : List (K.ty k45) → K.ty k23 → K.ty ki → Int → Int → Prop) (R0 : Int → Prop) (R1 : Prop) (l0 : List (K.ty k45)) (c1_0 : K.ty k23) (c1_1 : K.ty ki) (x7 : Int) (x8 : Int) : Prop :=
  brP (decide (x8 < x7)) (bound x8 (List.length l0) ∧ bound c1_1 (List.length (Lad.rungs c1_0)) ∧ brP (decide (Rung.label (getE k45 l0 x8) = jumpAt c1_0 c1_1)) (R0 x8) (again l0 c1_0 c1_1 x7 (IntKind.wrap IntKind.i64 (x8 + (1 : Int))))) R1
theorem t5657_0_mono {again : List (K.ty k45) → K.ty k23 → K.ty ki → Int → Int → Prop} {R0 : Int → Prop} {R1 : Prop} {again' : List (K.ty k45) → K.ty k23 → K.ty ki → Int → Int → Prop} {R0' : Int → Prop} {R1' : Prop} (ha : ∀ l0 c1_0 c1_1 x7 x8, again l0 c1_0 c1_1 x7 x8 → again' l0 c1_0 c1_1 x7 x8) (hr0 : ∀ x4, R0 x4 → R0' x4) (hr1 :  R1 → R1') (l0 : List (K.ty k45)) (c1_0 : K.ty k23) (c1_1 : K.ty ki) (x7 : Int) (x8 : Int) :
    t5657_0 again R0 R1 l0 c1_0 c1_1 x7 x8 → t5657_0 again' R0' R1' l0 c1_0 c1_1 x7 x8 :=
  brM (andM (id) (andM (id) (brM (hr0 _) (ha _ _ _ _ _)))) (hr1)
theorem t5657_0_eq (n : Nat) (Q : Ex → St → Prop) (l0 : List (K.ty k45)) (c1_0 : K.ty k23) (c1_1 : K.ty ki) (x7 : Int) (x8 : Int) :
    t5657_0 (fun l0 c1_0 c1_1 x7 x8 => loopP (awp tt E56 A56 L5657_0 0) ([(0 : Nat), (1 : Nat), (7 : Nat), (8 : Nat)], [], [(4 : Nat)]) n (S5657_0 l0 c1_0 c1_1 x7 x8) Q) (fun x4 => Q (Ex.ret) (X5657_0_0 x4)) ( Q (Ex.exit (nat_lit 0)) (X5657_0_1)) l0 c1_0 c1_1 x7 x8 = (loopP (awp tt E56 A56 L5657_0 0) ([(0 : Nat), (1 : Nat), (7 : Nat), (8 : Nat)], [], [(4 : Nat)]) (n + 1) (S5657_0 l0 c1_0 c1_1 x7 x8) Q) := by kernel_rfl
def G5657_0 (R0 : Int → Prop) (R1 : Prop) : Nat → List (K.ty k45) → K.ty k23 → K.ty ki → Int → Int → Prop
  | 0, _, _, _, _, _ => False
  | n + 1, l0, c1_0, c1_1, x7, x8 => t5657_0 (G5657_0 R0 R1 n) R0 R1 l0 c1_0 c1_1 x7 x8
theorem T5657_0 {R0 : Int → Prop} {R1 : Prop} (Q : Ex → St → Prop) (hr0 : ∀ x4, R0 x4 → Of (Q (Ex.ret) (X5657_0_0 x4))) (hr1 :  R1 → Of (Q (Ex.exit (nat_lit 0)) (X5657_0_1))) : ∀ (n : Nat) (l0 : List (K.ty k45)) (c1_0 : K.ty k23) (c1_1 : K.ty ki) (x7 : Int) (x8 : Int), G5657_0 R0 R1 n l0 c1_0 c1_1 x7 x8 → Of (loopP (awp tt E56 A56 L5657_0 0) ([(0 : Nat), (1 : Nat), (7 : Nat), (8 : Nat)], [], [(4 : Nat)]) n (S5657_0 l0 c1_0 c1_1 x7 x8) Q) := by
  intro n
  induction n with
  | zero => intro l0 c1_0 c1_1 x7 x8 h; exact h.elim
  | succ n ih =>
    intro l0 c1_0 c1_1 x7 x8 h
    exact kcO (t5657_0_eq n Q l0 c1_0 c1_1 x7 x8) (t5657_0_mono (fun _ _ _ _ _ h => (ih _ _ _ _ _ h).out) (fun _ h => (hr0 _ h).out) (fun h => (hr1 h).out) l0 c1_0 c1_1 x7 x8 h)
def t5657 (Q : List V1 → List Ob → Prop) (lp0 : List Rung → Lad → Int → Prop) (l : List Rung) (y : Lad) (i : Int) : Prop :=
  lp0 l y i
theorem t5657_mono {Q : List V1 → List Ob → Prop} {Q' : List V1 → List Ob → Prop} {lp0 : List Rung → Lad → Int → Prop} {lp0' : List Rung → Lad → Int → Prop} (hq : ∀ r h, Q r h → Q' r h) (hlp0 : ∀ l y i, lp0 l y i → lp0' l y i) (l : List Rung) (y : Lad) (i : Int) :
    t5657 Q lp0 l y i → t5657 Q' lp0' l y i :=
  hlp0 _ _ _
theorem t5657_eq (Q : List V1 → List Ob → Prop) (l : List Rung) (y : Lad) (i : Int) :
    t5657 Q (fun l y i => ∃ m, loopP (awp tt E56 A56 L5657_0 0) ([(0 : Nat), (1 : Nat), (7 : Nat), (8 : Nat)], [], [(4 : Nat)]) m (S5657_0 (l) (y) (i) ((↑(List.length l) : Int)) ((0 : Int))) (blkC (0 : Nat) (seqC (awp tt E56 A56 (Code.b (Code.b (Func.code Try.f56))) (0 : Nat)) (topC tt Try.f56 0 Q)))) l y i = (afun tt E56 A56 Try.f56 (I56c l y i) [] Q) := by kernel_rfl
def t5657c0x1 (Q : List V1 → List Ob → Prop) (l : List Rung) (y : Lad) (i : Int) : Prop :=
  Q [V1.one (Lf.int IntKind.i64 (-1 : Int))] []
theorem t5657c0x1_mono {Q : List V1 → List Ob → Prop} {Q' : List V1 → List Ob → Prop} (hq : ∀ r h, Q r h → Q' r h) (l : List Rung) (y : Lad) (i : Int) :
    t5657c0x1 Q l y i → t5657c0x1 Q' l y i :=
  hq _ _
theorem t5657c0x1_eq (Q : List V1 → List Ob → Prop) (l : List Rung) (y : Lad) (i : Int) :
    t5657c0x1 Q l y i = ((blkC (0 : Nat) (seqC (awp tt E56 A56 (Code.b (Code.b (Func.code Try.f56))) (0 : Nat)) (topC tt Try.f56 0 Q))) (Ex.exit (nat_lit 0)) (X5657_0_1)) := by kernel_rfl
def t5657c0x0 (Q : List V1 → List Ob → Prop) (l : List Rung) (y : Lad) (i : Int) (x4e3 : Int) : Prop :=
  Q [V1.one (Lf.int IntKind.i64 x4e3)] []
theorem t5657c0x0_mono {Q : List V1 → List Ob → Prop} {Q' : List V1 → List Ob → Prop} (hq : ∀ r h, Q r h → Q' r h) (l : List Rung) (y : Lad) (i : Int) (x4e3 : Int) :
    t5657c0x0 Q l y i x4e3 → t5657c0x0 Q' l y i x4e3 :=
  hq _ _
theorem t5657c0x0_eq (Q : List V1 → List Ob → Prop) (l : List Rung) (y : Lad) (i : Int) (x4e3 : Int) :
    t5657c0x0 Q l y i x4e3 = ((blkC (0 : Nat) (seqC (awp tt E56 A56 (Code.b (Code.b (Func.code Try.f56))) (0 : Nat)) (topC tt Try.f56 0 Q))) (Ex.ret) (X5657_0_0 x4e3)) := by kernel_rfl
def H5657 (Q : List V1 → List Ob → Prop) (l : List Rung) (y : Lad) (i : Int) : Prop := t5657 Q (fun l y i => ∃ m, G5657_0 (fun x4e3 => t5657c0x0 Q l y i x4e3) ( t5657c0x1 Q l y i) m (l) (y) (i) ((↑(List.length l) : Int)) ((0 : Int))) l y i
theorem ok5657 (Q : List V1 → List Ob → Prop) (l : List Rung) (y : Lad) (i : Int) (h : H5657 Q l y i) : Of (afun tt E56 A56 Try.f56 (I56c l y i) [] Q) :=
  kcO (t5657_eq Q l y i) (t5657_mono (fun _ _ h => h) (fun l y i ⟨m, h⟩ => ⟨m, (T5657_0 _ (fun x4e3 h => kcO (t5657c0x0_eq _ _ _ _ _) (t5657c0x0_mono (fun _ _ h => h) _ _ _ _ h)) (fun h => kcO (t5657c0x1_eq _ _ _ _) (t5657c0x1_mono (fun _ _ h => h) _ _ _ h)) m _ _ _ _ _ h).out⟩) l y i h)
def A37 : Ann := []
def E37 : Env := [(56, sp56)]
def t3754 (Q : List V1 → List Ob → Prop) (l : List Rung) (x : Rung) : Prop :=
  List.length l ≤ (4611686018427387904 : Nat) ∧ Q [V1.one (Lf.bool (decide (idxP (fun (r : Rung) => decide (Rung.label r = Rung.label x)) l (0 : Nat) ≥ (0 : Int))))] []
theorem t3754_mono {Q : List V1 → List Ob → Prop} {Q' : List V1 → List Ob → Prop} (hq : ∀ r h, Q r h → Q' r h) (l : List Rung) (x : Rung) :
    t3754 Q l x → t3754 Q' l x :=
  andM (id) (hq _ _)
theorem t3754_eq (Q : List V1 → List Ob → Prop) (l : List Rung) (x : Rung) :
    t3754 Q l x = (afun tt E37 A37 Try.f37 (I56a l x) [] Q) := by kernel_rfl
def H3754 (Q : List V1 → List Ob → Prop) (l : List Rung) (x : Rung) : Prop := t3754 Q l x
theorem ok3754 (Q : List V1 → List Ob → Prop) (l : List Rung) (x : Rung) (h : H3754 Q l x) : Of (afun tt E37 A37 Try.f37 (I56a l x) [] Q) :=
  kcO (t3754_eq Q l x) (t3754_mono (fun _ _ h => h) l x h)
def t3738 (Q : List V1 → List Ob → Prop) (l : List Rung) (x : Rung) : Prop :=
  List.length l ≤ (4611686018427387904 : Nat) ∧ Q [V1.one (Lf.bool (decide (idxP (fun (r : Rung) => decide (Rung.label r = Rung.jump x)) l (0 : Nat) ≥ (0 : Int))))] []
theorem t3738_mono {Q : List V1 → List Ob → Prop} {Q' : List V1 → List Ob → Prop} (hq : ∀ r h, Q r h → Q' r h) (l : List Rung) (x : Rung) :
    t3738 Q l x → t3738 Q' l x :=
  andM (id) (hq _ _)
theorem t3738_eq (Q : List V1 → List Ob → Prop) (l : List Rung) (x : Rung) :
    t3738 Q l x = (afun tt E37 A37 Try.f37 (I56b l x) [] Q) := by kernel_rfl
def H3738 (Q : List V1 → List Ob → Prop) (l : List Rung) (x : Rung) : Prop := t3738 Q l x
theorem ok3738 (Q : List V1 → List Ob → Prop) (l : List Rung) (x : Rung) (h : H3738 Q l x) : Of (afun tt E37 A37 Try.f37 (I56b l x) [] Q) :=
  kcO (t3738_eq Q l x) (t3738_mono (fun _ _ h => h) l x h)
def t3757 (Q : List V1 → List Ob → Prop) (l : List Rung) (y : Lad) (i : Int) : Prop :=
  bound i (List.length (Lad.rungs y)) ∧ List.length l ≤ (4611686018427387904 : Nat) ∧ Q [V1.one (Lf.bool (decide (idxP (fun (r : Rung) => decide (Rung.label r = jumpAt y i)) l (0 : Nat) ≥ (0 : Int))))] []
theorem t3757_mono {Q : List V1 → List Ob → Prop} {Q' : List V1 → List Ob → Prop} (hq : ∀ r h, Q r h → Q' r h) (l : List Rung) (y : Lad) (i : Int) :
    t3757 Q l y i → t3757 Q' l y i :=
  andM (id) (andM (id) (hq _ _))
theorem t3757_eq (Q : List V1 → List Ob → Prop) (l : List Rung) (y : Lad) (i : Int) :
    t3757 Q l y i = (afun tt E37 A37 Try.f37 (I56c l y i) [] Q) := by kernel_rfl
def H3757 (Q : List V1 → List Ob → Prop) (l : List Rung) (y : Lad) (i : Int) : Prop := t3757 Q l y i
theorem ok3757 (Q : List V1 → List Ob → Prop) (l : List Rung) (y : Lad) (i : Int) (h : H3757 Q l y i) : Of (afun tt E37 A37 Try.f37 (I56c l y i) [] Q) :=
  kcO (t3757_eq Q l y i) (t3757_mono (fun _ _ h => h) l y i h)
theorem env56 : EnvOk Try.prog E56 := .cons spec54 (by kernel_rfl) <| .cons spec38 (by kernel_rfl) <| .cons spec57 (by kernel_rfl) <| .nil
theorem idxP_drop {p : Rung → Bool} {l : List Rung} {i : Nat} (h : i < l.length) : idxP p (l.drop i) i = bif p (getE k45 l i) then (i : Int) else idxP p (l.drop (i + 1)) (i + 1) := by
  rw [getE_cons k45 l i h]; rfl
theorem loop5654 (l : List Rung) (x : Rung) (R0 : Int → Prop) (R1 : Prop) (hl : l.length ≤ 4611686018427387904) : ∀ n (i : Nat), l.length - i < n → i ≤ l.length →
    (idxP (fun r => decide (Rung.label r = Rung.label x)) (l.drop i) i = -1 → R1) → (∀ k, 0 ≤ k → idxP (fun r => decide (Rung.label r = Rung.label x)) (l.drop i) i = k → R0 k) → G5654_0 R0 R1 n l x l.length i := by
  intro n
  induction n with
  | zero => intro i h; omega
  | succ n ih =>
    intro i hn hi h1 h0
    refine brP_intro (fun c => ?_) (fun c => ?_)
    · have c : i < l.length := by simpa using c
      rw [idxP_drop c] at h1 h0
      refine ⟨⟨by omega, by omega⟩, ?_⟩
      refine brP_intro (fun d => h0 i (by omega) (by rw [d]; rfl)) (fun d => ?_)
      rw [d] at h1 h0
      rw [wrap_in (by omega) (by omega)]
      exact ih (i + 1) (by omega) (by omega) h1 h0
    · have c : ¬ i < l.length := by simpa using c
      exact h1 (by rw [List.drop_of_length_le (by omega)]; rfl)
theorem loop5638 (l : List Rung) (x : Rung) (R0 : Int → Prop) (R1 : Prop) (hl : l.length ≤ 4611686018427387904) : ∀ n (i : Nat), l.length - i < n → i ≤ l.length →
    (idxP (fun r => decide (Rung.label r = Rung.jump x)) (l.drop i) i = -1 → R1) → (∀ k, 0 ≤ k → idxP (fun r => decide (Rung.label r = Rung.jump x)) (l.drop i) i = k → R0 k) → G5638_0 R0 R1 n l x l.length i := by
  intro n
  induction n with
  | zero => intro i h; omega
  | succ n ih =>
    intro i hn hi h1 h0
    refine brP_intro (fun c => ?_) (fun c => ?_)
    · have c : i < l.length := by simpa using c
      rw [idxP_drop c] at h1 h0
      refine ⟨⟨by omega, by omega⟩, ?_⟩
      refine brP_intro (fun d => h0 i (by omega) (by rw [d]; rfl)) (fun d => ?_)
      rw [d] at h1 h0
      rw [wrap_in (by omega) (by omega)]
      exact ih (i + 1) (by omega) (by omega) h1 h0
    · have c : ¬ i < l.length := by simpa using c
      exact h1 (by rw [List.drop_of_length_le (by omega)]; rfl)
theorem loop5657 (l : List Rung) (y : Lad) (j : Int) (hj : bound j (Lad.rungs y).length) (R0 : Int → Prop) (R1 : Prop) (hl : l.length ≤ 4611686018427387904) : ∀ n (i : Nat), l.length - i < n → i ≤ l.length →
    (idxP (fun r => decide (Rung.label r = jumpAt y j)) (l.drop i) i = -1 → R1) → (∀ k, 0 ≤ k → idxP (fun r => decide (Rung.label r = jumpAt y j)) (l.drop i) i = k → R0 k) → G5657_0 R0 R1 n l y j l.length i := by
  intro n
  induction n with
  | zero => intro i h; omega
  | succ n ih =>
    intro i hn hi h1 h0
    refine brP_intro (fun c => ?_) (fun c => ?_)
    · have c : i < l.length := by simpa using c
      rw [idxP_drop c] at h1 h0
      refine ⟨⟨by omega, by omega⟩, hj, ?_⟩
      refine brP_intro (fun d => h0 i (by omega) (by rw [d]; rfl)) (fun d => ?_)
      rw [d] at h1 h0
      rw [wrap_in (by omega) (by omega)]
      exact ih (i + 1) (by omega) (by omega) h1 h0
    · have c : ¬ i < l.length := by simpa using c
      exact h1 (by rw [List.drop_of_length_le (by omega)]; rfl)
theorem cloK_cases {f : FuncId} {caps : List Cap} {Q : (Rung → Bool) → Prop} (h : cloK f caps Q) :
    (∃ x, f = 54 ∧ caps = [.imm k45 x] ∧ Q fun r => decide (Rung.label r = Rung.label x)) ∨ (∃ x, f = 38 ∧ caps = [.imm k45 x] ∧ Q fun r => decide (Rung.label r = Rung.jump x)) ∨
    (∃ l i, f = 57 ∧ caps = [.imm k23 l, .imm ki i] ∧ bound i (Lad.rungs l).length ∧ Q fun r => decide (Rung.label r = jumpAt l i)) := by
  unfold cloK at h
  split at h
  · obtain ⟨e, h⟩ := atK_iff h
    subst e
    exact .inl ⟨_, rfl, rfl, h⟩
  · obtain ⟨e, h⟩ := atK_iff h
    subst e
    exact .inr (.inl ⟨_, rfl, rfl, h⟩)
  · obtain ⟨e, h⟩ := atK_iff h
    subst e
    obtain ⟨e, h⟩ := atK_iff h
    subst e
    exact .inr (.inr ⟨_, _, rfl, rfl, h.1, h.2⟩)
  · exact h.elim
theorem spec56 : SpecOk Try.prog 56 sp56 := by
  refine (afun_sound tt_ok env56 mixed (A := A56) Try.func56).data2 fun args hp Q hq => ?_
  unfold sp56 at hq
  split at hq
  · rename_i v f caps
    obtain ⟨l, hl, hq⟩ := dK_iff hq
    rcases cloK_cases hq with ⟨x, rfl, rfl, hn, hq⟩ | ⟨x, rfl, rfl, hn, hq⟩ | ⟨y, j, rfl, rfl, hj, hn, hq⟩
    · refine ⟨rfl, I56a l x, ⟨.inr ⟨kR, l, hl.1, hl.2, rfl⟩, .inl rfl, trivial⟩, (ok5654 Q l x ?_).out⟩
      exact ⟨l.length + 1, loop5654 l x _ _ hn _ 0 (by omega) (by omega) (fun h => by rw [show idxP _ l 0 = -1 from h] at hq; exact hq) (fun k _ h => by rw [show idxP _ l 0 = k from h] at hq; exact hq)⟩
    · refine ⟨rfl, I56b l x, ⟨.inr ⟨kR, l, hl.1, hl.2, rfl⟩, .inl rfl, trivial⟩, (ok5638 Q l x ?_).out⟩
      exact ⟨l.length + 1, loop5638 l x _ _ hn _ 0 (by omega) (by omega) (fun h => by rw [show idxP _ l 0 = -1 from h] at hq; exact hq) (fun k _ h => by rw [show idxP _ l 0 = k from h] at hq; exact hq)⟩
    · refine ⟨rfl, I56c l y j, ⟨.inr ⟨kR, l, hl.1, hl.2, rfl⟩, .inl rfl, trivial⟩, (ok5657 Q l y j ?_).out⟩
      exact ⟨l.length + 1, loop5657 l y j hj _ _ hn _ 0 (by omega) (by omega) (fun h => by rw [show idxP _ l 0 = -1 from h] at hq; exact hq) (fun k _ h => by rw [show idxP _ l 0 = k from h] at hq; exact hq)⟩
  · exact hq.elim
theorem env37 : EnvOk Try.prog E37 := .cons spec56 (by kernel_rfl) .nil
theorem spec37 : SpecOk Try.prog 37 sp37 := by
  refine (afun_sound tt_ok env37 mixed (A := A37) Try.func37).data2 fun args hp Q hq => ?_
  unfold sp37 at hq
  split at hq
  · rename_i v f caps
    obtain ⟨l, hl, hq⟩ := dK_iff hq
    rcases cloK_cases hq with ⟨x, rfl, rfl, hn, hq⟩ | ⟨x, rfl, rfl, hn, hq⟩ | ⟨y, j, rfl, rfl, hj, hn, hq⟩
    · exact ⟨rfl, I56a l x, ⟨.inr ⟨kR, l, hl.1, hl.2, rfl⟩, .inl rfl, trivial⟩, (ok3754 Q l x ⟨hn, hq⟩).out⟩
    · exact ⟨rfl, I56b l x, ⟨.inr ⟨kR, l, hl.1, hl.2, rfl⟩, .inl rfl, trivial⟩, (ok3738 Q l x ⟨hn, hq⟩).out⟩
    · exact ⟨rfl, I56c l y j, ⟨.inr ⟨kR, l, hl.1, hl.2, rfl⟩, .inl rfl, trivial⟩, (ok3757 Q l y j ⟨hj, hn, hq⟩).out⟩
  · exact hq.elim
end Go.AM
namespace Go.AM
open Go.Proofs
-- f58 "busbar/state.Read" ['25', '27', '73'] -> ['4', '32']
def A58 : Ann := []
def E58 : Env := [(70, sp70)]
def I58 (p0 : ((.slice 4 .bool) : K).ty) (p1 : (k26 : K).ty) (p2 : (k72 : K).ty) : List V1 := [nfK (.slice 4 .bool) p0, nfK k26 p1, nfK k72 p2]
def t58 (Q : List V1 → List Ob → Prop) (p0 : K.ty (K.slice (4 : TypeId) K.bool)) (p1 : K.ty k26) (p2 : K.ty k72) : Prop :=
  brP (decide (p2.fst < (0 : Int))) (Q [V1.one (Lf.bool false), V1.one (Lf.int IntKind.i64 (8 : Int))] []) (brP (decide (p2.fst ≥ (3 : Int))) (Q [V1.one (Lf.bool false), V1.one (Lf.int IntKind.i64 (8 : Int))] []) (bound p2.fst (3 : Nat) ∧ brP (decide (p2.fst = (0 : Int))) (Q [V1.one (Lf.bool (get p0 p2.snd).fst), V1.one (Lf.int IntKind.i64 (get p0 p2.snd).snd)] []) (brP (decide (p2.fst = (1 : Int))) (Q [V1.one (Lf.bool (get p1.fst p2.snd).fst), V1.one (Lf.int IntKind.i64 (get p1.fst p2.snd).snd)] []) (brP (decide (p2.fst = (2 : Int))) (Q [V1.one (Lf.bool (get p1.snd.fst p2.snd).fst), V1.one (Lf.int IntKind.i64 (get p1.snd.fst p2.snd).snd)] []) True))))
theorem t58_mono {Q : List V1 → List Ob → Prop} {Q' : List V1 → List Ob → Prop} (hq : ∀ r h, Q r h → Q' r h) (p0 : K.ty (K.slice (4 : TypeId) K.bool)) (p1 : K.ty k26) (p2 : K.ty k72) :
    t58 Q p0 p1 p2 → t58 Q' p0 p1 p2 :=
  brM (hq _ _) (brM (hq _ _) (andM (id) (brM (hq _ _) (brM (hq _ _) (brM (hq _ _) (id))))))
theorem t58_eq (Q : List V1 → List Ob → Prop) (p0 : K.ty (K.slice (4 : TypeId) K.bool)) (p1 : K.ty k26) (p2 : K.ty k72) :
    t58 Q p0 p1 p2 = (afun tt E58 A58 Try.f58 (I58 p0 p1 p2) [] Q) := by kernel_rfl
def H58 (Q : List V1 → List Ob → Prop) (p0 : K.ty (K.slice (4 : TypeId) K.bool)) (p1 : K.ty k26) (p2 : K.ty k72) : Prop := t58 Q p0 p1 p2
theorem ok58 (Q : List V1 → List Ob → Prop) (p0 : K.ty (K.slice (4 : TypeId) K.bool)) (p1 : K.ty k26) (p2 : K.ty k72) (h : H58 Q p0 p1 p2) : Of (afun tt E58 A58 Try.f58 (I58 p0 p1 p2) [] Q) :=
  kcO (t58_eq Q p0 p1 p2) (t58_mono (fun _ _ h => h) p0 p1 p2 h)
theorem env58 : EnvOk Try.prog E58 := .cons spec70 (by kernel_rfl) <| .nil
-- f24 "busbar/state.Fits" ['60', '27'] -> ['4']
def A24 : Ann := [(0, [2, 5, 16, 17], [2], [4])]
def E24 : Env := [(35, sp35), (39, sp39)]
def I24 (p0 : (k59 : K).ty) (p1 : (k26 : K).ty) : List V1 := [nfK k59 p0, nfK k26 p1]
noncomputable def L24_0 : Code := Code.a (Code.a (Code.b (Code.a (Code.b (Code.b (Func.code Try.f24))))))
def S24_0 (x16_0 : Int) (x16_1 : Int) (x16_2 : Int) (x17 : Int) (xh0_0 : Int) (xh0_1 : Int) (xh0_2 : Int) (xh0_3 : Int) (lh1_0 : List (K.ty K.bool)) (lh1_1 : List (K.ty K.bool)) (lh1_2 : List (K.ty K.bool)) : St := sp (31 : Nat) [((2 : Nat), V.v (V1.one (Lf.ptr (nat_lit 0) (nat_lit 0)))), ((5 : Nat), V.v (V1.one (Lf.ptr (nat_lit 1) (nat_lit 0)))), ((16 : Nat), V.v (V1.agg [Lf.int IntKind.i64 x16_0, Lf.int IntKind.i64 x16_1, Lf.int IntKind.i64 x16_2])), ((17 : Nat), V.v (V1.one (Lf.int IntKind.i64 x17)))] [Ob.box (60 : Nat) [Lf.int IntKind.i64 xh0_0, Lf.int IntKind.i64 xh0_1, Lf.int IntKind.i64 xh0_2, Lf.int IntKind.i64 xh0_3], Ob.box (83 : Nat) [Lf.sl (4 : TypeId) K.bool lh1_0, Lf.sl (4 : TypeId) K.bool lh1_1, Lf.sl (4 : TypeId) K.bool lh1_2]]
def X24_0_0 (b4 : Bool) : St := sp (31 : Nat) [((4 : Nat), V.v (V1.one (Lf.bool b4)))] []
def X24_0_1 (xh0_0 : Int) (xh0_1 : Int) (xh0_2 : Int) (xh0_3 : Int) : St := sp (31 : Nat) [((2 : Nat), V.v (V1.one (Lf.ptr (nat_lit 0) (nat_lit 0))))] [Ob.box (60 : Nat) [Lf.int IntKind.i64 xh0_0, Lf.int IntKind.i64 xh0_1, Lf.int IntKind.i64 xh0_2, Lf.int IntKind.i64 xh0_3]]
def t24_0 (again : Int → Int → Int → Int → Int → Int → Int → Int → List (K.ty K.bool) → List (K.ty K.bool) → List (K.ty K.bool) → Prop) (R0 : Bool → Prop) (R1 : Int → Int → Int → Int → Prop) (x16_0 : Int) (x16_1 : Int) (x16_2 : Int) (x17 : Int) (xh0_0 : Int) (xh0_1 : Int) (xh0_2 : Int) (xh0_3 : Int) (lh1_0 : List (K.ty K.bool)) (lh1_1 : List (K.ty K.bool)) (lh1_2 : List (K.ty K.bool)) : Prop :=
  brP (decide (x17 < (3 : Int))) (bound x17 (3 : Nat) ∧ brP (decide (x17 = (0 : Int))) (bound x17 (3 : Nat) ∧ brP (decide (x17 = (0 : Int))) (brP ((↑(List.length lh1_0) : Int) != x16_0) (R0 false) (again x16_0 x16_1 x16_2 (IntKind.wrap IntKind.i64 (x17 + (1 : Int))) xh0_0 xh0_1 xh0_2 xh0_3 lh1_0 lh1_1 lh1_2)) (brP (decide (x17 = (1 : Int))) (brP ((↑(List.length lh1_1) : Int) != x16_0) (R0 false) (again x16_0 x16_1 x16_2 (IntKind.wrap IntKind.i64 (x17 + (1 : Int))) xh0_0 xh0_1 xh0_2 xh0_3 lh1_0 lh1_1 lh1_2)) (brP (decide (x17 = (2 : Int))) (brP ((↑(List.length lh1_2) : Int) != x16_0) (R0 false) (again x16_0 x16_1 x16_2 (IntKind.wrap IntKind.i64 (x17 + (1 : Int))) xh0_0 xh0_1 xh0_2 xh0_3 lh1_0 lh1_1 lh1_2)) True))) (brP (decide (x17 = (1 : Int))) (bound x17 (3 : Nat) ∧ brP (decide (x17 = (0 : Int))) (brP ((↑(List.length lh1_0) : Int) != x16_1) (R0 false) (again x16_0 x16_1 x16_2 (IntKind.wrap IntKind.i64 (x17 + (1 : Int))) xh0_0 xh0_1 xh0_2 xh0_3 lh1_0 lh1_1 lh1_2)) (brP (decide (x17 = (1 : Int))) (brP ((↑(List.length lh1_1) : Int) != x16_1) (R0 false) (again x16_0 x16_1 x16_2 (IntKind.wrap IntKind.i64 (x17 + (1 : Int))) xh0_0 xh0_1 xh0_2 xh0_3 lh1_0 lh1_1 lh1_2)) (brP (decide (x17 = (2 : Int))) (brP ((↑(List.length lh1_2) : Int) != x16_1) (R0 false) (again x16_0 x16_1 x16_2 (IntKind.wrap IntKind.i64 (x17 + (1 : Int))) xh0_0 xh0_1 xh0_2 xh0_3 lh1_0 lh1_1 lh1_2)) True))) (brP (decide (x17 = (2 : Int))) (bound x17 (3 : Nat) ∧ brP (decide (x17 = (0 : Int))) (brP ((↑(List.length lh1_0) : Int) != x16_2) (R0 false) (again x16_0 x16_1 x16_2 (IntKind.wrap IntKind.i64 (x17 + (1 : Int))) xh0_0 xh0_1 xh0_2 xh0_3 lh1_0 lh1_1 lh1_2)) (brP (decide (x17 = (1 : Int))) (brP ((↑(List.length lh1_1) : Int) != x16_2) (R0 false) (again x16_0 x16_1 x16_2 (IntKind.wrap IntKind.i64 (x17 + (1 : Int))) xh0_0 xh0_1 xh0_2 xh0_3 lh1_0 lh1_1 lh1_2)) (brP (decide (x17 = (2 : Int))) (brP ((↑(List.length lh1_2) : Int) != x16_2) (R0 false) (again x16_0 x16_1 x16_2 (IntKind.wrap IntKind.i64 (x17 + (1 : Int))) xh0_0 xh0_1 xh0_2 xh0_3 lh1_0 lh1_1 lh1_2)) True))) True))) (R1 xh0_0 xh0_1 xh0_2 xh0_3)
theorem t24_0_mono {again : Int → Int → Int → Int → Int → Int → Int → Int → List (K.ty K.bool) → List (K.ty K.bool) → List (K.ty K.bool) → Prop} {R0 : Bool → Prop} {R1 : Int → Int → Int → Int → Prop} {again' : Int → Int → Int → Int → Int → Int → Int → Int → List (K.ty K.bool) → List (K.ty K.bool) → List (K.ty K.bool) → Prop} {R0' : Bool → Prop} {R1' : Int → Int → Int → Int → Prop} (ha : ∀ x16_0 x16_1 x16_2 x17 xh0_0 xh0_1 xh0_2 xh0_3 lh1_0 lh1_1 lh1_2, again x16_0 x16_1 x16_2 x17 xh0_0 xh0_1 xh0_2 xh0_3 lh1_0 lh1_1 lh1_2 → again' x16_0 x16_1 x16_2 x17 xh0_0 xh0_1 xh0_2 xh0_3 lh1_0 lh1_1 lh1_2) (hr0 : ∀ b4, R0 b4 → R0' b4) (hr1 : ∀ xh0_0 xh0_1 xh0_2 xh0_3, R1 xh0_0 xh0_1 xh0_2 xh0_3 → R1' xh0_0 xh0_1 xh0_2 xh0_3) (x16_0 : Int) (x16_1 : Int) (x16_2 : Int) (x17 : Int) (xh0_0 : Int) (xh0_1 : Int) (xh0_2 : Int) (xh0_3 : Int) (lh1_0 : List (K.ty K.bool)) (lh1_1 : List (K.ty K.bool)) (lh1_2 : List (K.ty K.bool)) :
    t24_0 again R0 R1 x16_0 x16_1 x16_2 x17 xh0_0 xh0_1 xh0_2 xh0_3 lh1_0 lh1_1 lh1_2 → t24_0 again' R0' R1' x16_0 x16_1 x16_2 x17 xh0_0 xh0_1 xh0_2 xh0_3 lh1_0 lh1_1 lh1_2 :=
  brM (andM (id) (brM (andM (id) (brM (brM (hr0 _) (ha _ _ _ _ _ _ _ _ _ _ _)) (brM (brM (hr0 _) (ha _ _ _ _ _ _ _ _ _ _ _)) (brM (brM (hr0 _) (ha _ _ _ _ _ _ _ _ _ _ _)) (id))))) (brM (andM (id) (brM (brM (hr0 _) (ha _ _ _ _ _ _ _ _ _ _ _)) (brM (brM (hr0 _) (ha _ _ _ _ _ _ _ _ _ _ _)) (brM (brM (hr0 _) (ha _ _ _ _ _ _ _ _ _ _ _)) (id))))) (brM (andM (id) (brM (brM (hr0 _) (ha _ _ _ _ _ _ _ _ _ _ _)) (brM (brM (hr0 _) (ha _ _ _ _ _ _ _ _ _ _ _)) (brM (brM (hr0 _) (ha _ _ _ _ _ _ _ _ _ _ _)) (id))))) (id))))) (hr1 _ _ _ _)
theorem t24_0_eq (n : Nat) (Q : Ex → St → Prop) (x16_0 : Int) (x16_1 : Int) (x16_2 : Int) (x17 : Int) (xh0_0 : Int) (xh0_1 : Int) (xh0_2 : Int) (xh0_3 : Int) (lh1_0 : List (K.ty K.bool)) (lh1_1 : List (K.ty K.bool)) (lh1_2 : List (K.ty K.bool)) :
    t24_0 (fun x16_0 x16_1 x16_2 x17 xh0_0 xh0_1 xh0_2 xh0_3 lh1_0 lh1_1 lh1_2 => loopP (awp tt E24 A24 L24_0 0) ([(2 : Nat), (5 : Nat), (16 : Nat), (17 : Nat)], [(2 : Nat)], [(4 : Nat)]) n (S24_0 x16_0 x16_1 x16_2 x17 xh0_0 xh0_1 xh0_2 xh0_3 lh1_0 lh1_1 lh1_2) Q) (fun b4 => Q (Ex.ret) (X24_0_0 b4)) (fun xh0_0 xh0_1 xh0_2 xh0_3 => Q (Ex.exit (nat_lit 0)) (X24_0_1 xh0_0 xh0_1 xh0_2 xh0_3)) x16_0 x16_1 x16_2 x17 xh0_0 xh0_1 xh0_2 xh0_3 lh1_0 lh1_1 lh1_2 = (loopP (awp tt E24 A24 L24_0 0) ([(2 : Nat), (5 : Nat), (16 : Nat), (17 : Nat)], [(2 : Nat)], [(4 : Nat)]) (n + 1) (S24_0 x16_0 x16_1 x16_2 x17 xh0_0 xh0_1 xh0_2 xh0_3 lh1_0 lh1_1 lh1_2) Q) := by kernel_rfl
def G24_0 (R0 : Bool → Prop) (R1 : Int → Int → Int → Int → Prop) : Nat → Int → Int → Int → Int → Int → Int → Int → Int → List (K.ty K.bool) → List (K.ty K.bool) → List (K.ty K.bool) → Prop
  | 0, _, _, _, _, _, _, _, _, _, _, _ => False
  | n + 1, x16_0, x16_1, x16_2, x17, xh0_0, xh0_1, xh0_2, xh0_3, lh1_0, lh1_1, lh1_2 => t24_0 (G24_0 R0 R1 n) R0 R1 x16_0 x16_1 x16_2 x17 xh0_0 xh0_1 xh0_2 xh0_3 lh1_0 lh1_1 lh1_2
theorem T24_0 {R0 : Bool → Prop} {R1 : Int → Int → Int → Int → Prop} (Q : Ex → St → Prop) (hr0 : ∀ b4, R0 b4 → Of (Q (Ex.ret) (X24_0_0 b4))) (hr1 : ∀ xh0_0 xh0_1 xh0_2 xh0_3, R1 xh0_0 xh0_1 xh0_2 xh0_3 → Of (Q (Ex.exit (nat_lit 0)) (X24_0_1 xh0_0 xh0_1 xh0_2 xh0_3))) : ∀ (n : Nat) (x16_0 : Int) (x16_1 : Int) (x16_2 : Int) (x17 : Int) (xh0_0 : Int) (xh0_1 : Int) (xh0_2 : Int) (xh0_3 : Int) (lh1_0 : List (K.ty K.bool)) (lh1_1 : List (K.ty K.bool)) (lh1_2 : List (K.ty K.bool)), G24_0 R0 R1 n x16_0 x16_1 x16_2 x17 xh0_0 xh0_1 xh0_2 xh0_3 lh1_0 lh1_1 lh1_2 → Of (loopP (awp tt E24 A24 L24_0 0) ([(2 : Nat), (5 : Nat), (16 : Nat), (17 : Nat)], [(2 : Nat)], [(4 : Nat)]) n (S24_0 x16_0 x16_1 x16_2 x17 xh0_0 xh0_1 xh0_2 xh0_3 lh1_0 lh1_1 lh1_2) Q) := by
  intro n
  induction n with
  | zero => intro x16_0 x16_1 x16_2 x17 xh0_0 xh0_1 xh0_2 xh0_3 lh1_0 lh1_1 lh1_2 h; exact h.elim
  | succ n ih =>
    intro x16_0 x16_1 x16_2 x17 xh0_0 xh0_1 xh0_2 xh0_3 lh1_0 lh1_1 lh1_2 h
    exact kcO (t24_0_eq n Q x16_0 x16_1 x16_2 x17 xh0_0 xh0_1 xh0_2 xh0_3 lh1_0 lh1_1 lh1_2) (t24_0_mono (fun _ _ _ _ _ _ _ _ _ _ _ h => (ih _ _ _ _ _ _ _ _ _ _ _ h).out) (fun _ h => (hr0 _ h).out) (fun _ _ _ _ h => (hr1 _ _ _ _ h).out) x16_0 x16_1 x16_2 x17 xh0_0 xh0_1 xh0_2 xh0_3 lh1_0 lh1_1 lh1_2 h)
def t24 (Q : List V1 → List Ob → Prop) (lp0 : K.ty k59 → K.ty k26 → Prop) (p0 : K.ty k59) (p1 : K.ty k26) : Prop :=
  lp0 p0 p1
theorem t24_mono {Q : List V1 → List Ob → Prop} {Q' : List V1 → List Ob → Prop} {lp0 : K.ty k59 → K.ty k26 → Prop} {lp0' : K.ty k59 → K.ty k26 → Prop} (hq : ∀ r h, Q r h → Q' r h) (hlp0 : ∀ p0 p1, lp0 p0 p1 → lp0' p0 p1) (p0 : K.ty k59) (p1 : K.ty k26) :
    t24 Q lp0 p0 p1 → t24 Q' lp0' p0 p1 :=
  hlp0 _ _
theorem t24_eq (Q : List V1 → List Ob → Prop) (p0 : K.ty k59) (p1 : K.ty k26) :
    t24 Q (fun p0 p1 => ∃ m, loopP (awp tt E24 A24 L24_0 0) ([(2 : Nat), (5 : Nat), (16 : Nat), (17 : Nat)], [(2 : Nat)], [(4 : Nat)]) m (S24_0 (p0.snd.fst) (p0.snd.snd.fst) (p0.snd.snd.snd) ((0 : Int)) (p0.fst) (p0.snd.fst) (p0.snd.snd.fst) (p0.snd.snd.snd) (p1.fst) (p1.snd.fst) (p1.snd.snd)) (blkC (0 : Nat) (seqC (awp tt E24 A24 (Code.b (Code.b (Code.b (Func.code Try.f24)))) (0 : Nat)) (topC tt Try.f24 0 Q)))) p0 p1 = (afun tt E24 A24 Try.f24 (I24 p0 p1) [] Q) := by kernel_rfl
def t24c0x1 (Q : List V1 → List Ob → Prop) (p0 : K.ty k59) (p1 : K.ty k26) (xh0_0e2 : Int) (xh0_1e2 : Int) (xh0_2e2 : Int) (xh0_3e2 : Int) : Prop :=
  Q [V1.one (Lf.bool (checkSize (xh0_0e2, xh0_1e2, xh0_2e2, xh0_3e2) == (0 : Int)))] []
theorem t24c0x1_mono {Q : List V1 → List Ob → Prop} {Q' : List V1 → List Ob → Prop} (hq : ∀ r h, Q r h → Q' r h) (p0 : K.ty k59) (p1 : K.ty k26) (xh0_0e2 : Int) (xh0_1e2 : Int) (xh0_2e2 : Int) (xh0_3e2 : Int) :
    t24c0x1 Q p0 p1 xh0_0e2 xh0_1e2 xh0_2e2 xh0_3e2 → t24c0x1 Q' p0 p1 xh0_0e2 xh0_1e2 xh0_2e2 xh0_3e2 :=
  hq _ _
theorem t24c0x1_eq (Q : List V1 → List Ob → Prop) (p0 : K.ty k59) (p1 : K.ty k26) (xh0_0e2 : Int) (xh0_1e2 : Int) (xh0_2e2 : Int) (xh0_3e2 : Int) :
    t24c0x1 Q p0 p1 xh0_0e2 xh0_1e2 xh0_2e2 xh0_3e2 = ((blkC (0 : Nat) (seqC (awp tt E24 A24 (Code.b (Code.b (Code.b (Func.code Try.f24)))) (0 : Nat)) (topC tt Try.f24 0 Q))) (Ex.exit (nat_lit 0)) (X24_0_1 xh0_0e2 xh0_1e2 xh0_2e2 xh0_3e2)) := by kernel_rfl
def t24c0x0 (Q : List V1 → List Ob → Prop) (p0 : K.ty k59) (p1 : K.ty k26) (b4e2 : Bool) : Prop :=
  Q [V1.one (Lf.bool b4e2)] []
theorem t24c0x0_mono {Q : List V1 → List Ob → Prop} {Q' : List V1 → List Ob → Prop} (hq : ∀ r h, Q r h → Q' r h) (p0 : K.ty k59) (p1 : K.ty k26) (b4e2 : Bool) :
    t24c0x0 Q p0 p1 b4e2 → t24c0x0 Q' p0 p1 b4e2 :=
  hq _ _
theorem t24c0x0_eq (Q : List V1 → List Ob → Prop) (p0 : K.ty k59) (p1 : K.ty k26) (b4e2 : Bool) :
    t24c0x0 Q p0 p1 b4e2 = ((blkC (0 : Nat) (seqC (awp tt E24 A24 (Code.b (Code.b (Code.b (Func.code Try.f24)))) (0 : Nat)) (topC tt Try.f24 0 Q))) (Ex.ret) (X24_0_0 b4e2)) := by kernel_rfl
def H24 (Q : List V1 → List Ob → Prop) (p0 : K.ty k59) (p1 : K.ty k26) : Prop := t24 Q (fun p0 p1 => ∃ m, G24_0 (fun b4e2 => t24c0x0 Q p0 p1 b4e2) (fun xh0_0e2 xh0_1e2 xh0_2e2 xh0_3e2 => t24c0x1 Q p0 p1 xh0_0e2 xh0_1e2 xh0_2e2 xh0_3e2) m (p0.snd.fst) (p0.snd.snd.fst) (p0.snd.snd.snd) ((0 : Int)) (p0.fst) (p0.snd.fst) (p0.snd.snd.fst) (p0.snd.snd.snd) (p1.fst) (p1.snd.fst) (p1.snd.snd)) p0 p1
theorem ok24 (Q : List V1 → List Ob → Prop) (p0 : K.ty k59) (p1 : K.ty k26) (h : H24 Q p0 p1) : Of (afun tt E24 A24 Try.f24 (I24 p0 p1) [] Q) :=
  kcO (t24_eq Q p0 p1) (t24_mono (fun _ _ h => h) (fun p0 p1 ⟨m, h⟩ => ⟨m, (T24_0 _ (fun b4e2 h => kcO (t24c0x0_eq _ _ _ _) (t24c0x0_mono (fun _ _ h => h) _ _ _ h)) (fun xh0_0e2 xh0_1e2 xh0_2e2 xh0_3e2 h => kcO (t24c0x1_eq _ _ _ _ _ _ _) (t24c0x1_mono (fun _ _ h => h) _ _ _ _ _ _ h)) m _ _ _ _ _ _ _ _ _ _ _ h).out⟩) p0 p1 h)
theorem env24 : EnvOk Try.prog E24 := .cons spec35 (by kernel_rfl) <| .cons spec39 (by kernel_rfl) <| .nil
-- f61 "busbar/state.Write" ['27', '73', '4'] -> ['27', '32']
def A61 : Ann := []
def E61 : Env := [(25, sp25), (71, sp71)]
def I61 (p0 : (k26 : K).ty) (p1 : (k72 : K).ty) (p2 : (.bool : K).ty) : List V1 := [nfK k26 p0, nfK k72 p1, nfK .bool p2]
def t61 (Q : List V1 → List Ob → Prop) (p0 : K.ty k26) (p1 : K.ty k72) (p2 : K.ty K.bool) : Prop :=
  small p0 ∧ brP (p1.fst == (1 : Int)) (List.length p0.fst ≤ (1000000000000 : Nat) ∧ brP ((setI p0.fst p1.snd p2).snd != (0 : Int)) (Q [V1.agg [Lf.nils, Lf.nils, Lf.nils], V1.one (Lf.int IntKind.i64 (setI p0.fst p1.snd p2).snd)] []) (Q [V1.agg [Lf.own (0 : Nat), Lf.own ((0 : Nat) + (1 : Nat)), Lf.own ((0 : Nat) + (1 : Nat) + (1 : Nat))], V1.one (Lf.int IntKind.i64 (0 : Int))] [Ob.row (4 : TypeId) K.bool (setI p0.fst p1.snd p2).fst, Ob.row (4 : TypeId) K.bool p0.snd.fst, Ob.row (4 : TypeId) K.bool p0.snd.snd])) (brP (p1.fst == (2 : Int)) (List.length p0.snd.fst ≤ (1000000000000 : Nat) ∧ brP ((setI p0.snd.fst p1.snd p2).snd != (0 : Int)) (Q [V1.agg [Lf.nils, Lf.nils, Lf.nils], V1.one (Lf.int IntKind.i64 (setI p0.snd.fst p1.snd p2).snd)] []) (Q [V1.agg [Lf.own (0 : Nat), Lf.own ((0 : Nat) + (1 : Nat)), Lf.own ((0 : Nat) + (1 : Nat) + (1 : Nat))], V1.one (Lf.int IntKind.i64 (0 : Int))] [Ob.row (4 : TypeId) K.bool p0.fst, Ob.row (4 : TypeId) K.bool (setI p0.snd.fst p1.snd p2).fst, Ob.row (4 : TypeId) K.bool p0.snd.snd])) (Q [V1.agg [Lf.nils, Lf.nils, Lf.nils], V1.one (Lf.int IntKind.i64 (8 : Int))] []))
theorem t61_mono {Q : List V1 → List Ob → Prop} {Q' : List V1 → List Ob → Prop} (hq : ∀ r h, Q r h → Q' r h) (p0 : K.ty k26) (p1 : K.ty k72) (p2 : K.ty K.bool) :
    t61 Q p0 p1 p2 → t61 Q' p0 p1 p2 :=
  andM (id) (brM (andM (id) (brM (hq _ _) (hq _ _))) (brM (andM (id) (brM (hq _ _) (hq _ _))) (hq _ _)))
theorem t61_eq (Q : List V1 → List Ob → Prop) (p0 : K.ty k26) (p1 : K.ty k72) (p2 : K.ty K.bool) :
    t61 Q p0 p1 p2 = (afun tt E61 A61 Try.f61 (I61 p0 p1 p2) [] Q) := by kernel_rfl
def H61 (Q : List V1 → List Ob → Prop) (p0 : K.ty k26) (p1 : K.ty k72) (p2 : K.ty K.bool) : Prop := t61 Q p0 p1 p2
theorem ok61 (Q : List V1 → List Ob → Prop) (p0 : K.ty k26) (p1 : K.ty k72) (p2 : K.ty K.bool) (h : H61 Q p0 p1 p2) : Of (afun tt E61 A61 Try.f61 (I61 p0 p1 p2) [] Q) :=
  kcO (t61_eq Q p0 p1 p2) (t61_mono (fun _ _ h => h) p0 p1 p2 h)
theorem env61 : EnvOk Try.prog E61 := .cons spec25 (by kernel_rfl) <| .cons spec71 (by kernel_rfl) <| .nil
-- f55 "busbar/printer.part" ['60', '3', '73'] -> ['32']
def A55 : Ann := []
def E55 : Env := [(69, sp69)]
def I55 (p0 : (k59 : K).ty) (p1 : ((.int .i64) : K).ty) (p2 : (k72 : K).ty) : List V1 := [nfK k59 p0, nfK (.int .i64) p1, nfK k72 p2]
def t55 (Q : List V1 → List Ob → Prop) (p0 : K.ty k59) (p1 : K.ty (K.int IntKind.i64)) (p2 : K.ty k72) : Prop :=
  brP (decide (p1 < (0 : Int))) (Q [V1.one (Lf.int IntKind.i64 (8 : Int))] []) (brP (decide (p1 ≥ (4 : Int))) (Q [V1.one (Lf.int IntKind.i64 (8 : Int))] []) (Q [V1.one (Lf.int IntKind.i64 (checkAddr p0 p2))] []))
theorem t55_mono {Q : List V1 → List Ob → Prop} {Q' : List V1 → List Ob → Prop} (hq : ∀ r h, Q r h → Q' r h) (p0 : K.ty k59) (p1 : K.ty (K.int IntKind.i64)) (p2 : K.ty k72) :
    t55 Q p0 p1 p2 → t55 Q' p0 p1 p2 :=
  brM (hq _ _) (brM (hq _ _) (hq _ _))
theorem t55_eq (Q : List V1 → List Ob → Prop) (p0 : K.ty k59) (p1 : K.ty (K.int IntKind.i64)) (p2 : K.ty k72) :
    t55 Q p0 p1 p2 = (afun tt E55 A55 Try.f55 (I55 p0 p1 p2) [] Q) := by kernel_rfl
def H55 (Q : List V1 → List Ob → Prop) (p0 : K.ty k59) (p1 : K.ty (K.int IntKind.i64)) (p2 : K.ty k72) : Prop := t55 Q p0 p1 p2
theorem ok55 (Q : List V1 → List Ob → Prop) (p0 : K.ty k59) (p1 : K.ty (K.int IntKind.i64)) (p2 : K.ty k72) (h : H55 Q p0 p1 p2) : Of (afun tt E55 A55 Try.f55 (I55 p0 p1 p2) [] Q) :=
  kcO (t55_eq Q p0 p1 p2) (t55_mono (fun _ _ h => h) p0 p1 p2 h)
theorem env55 : EnvOk Try.prog E55 := .cons spec69 (by kernel_rfl) <| .nil
-- f59 "busbar/rungeval.conducting" ['3', '4', '4'] -> ['4']
def A59 : Ann := []
def E59 : Env := []
def I59 (p0 : ((.int .i64) : K).ty) (p1 : (.bool : K).ty) (p2 : (.bool : K).ty) : List V1 := [nfK (.int .i64) p0, nfK .bool p1, nfK .bool p2]
def t59 (Q : List V1 → List Ob → Prop) (p0 : K.ty (K.int IntKind.i64)) (p1 : K.ty K.bool) (p2 : K.ty K.bool) : Prop :=
  brP p1 (brP (!p1) (bound p0 (4 : Nat) ∧ brP (decide (p0 = (0 : Int))) (Q [V1.one (Lf.bool p1)] []) (brP (decide (p0 = (1 : Int))) (Q [V1.one (Lf.bool !p1)] []) (brP (decide (p0 = (2 : Int))) (Q [V1.one (Lf.bool !p2)] []) (brP (decide (p0 = (3 : Int))) (Q [V1.one (Lf.bool p2)] []) True)))) (bound p0 (4 : Nat) ∧ brP (decide (p0 = (0 : Int))) (Q [V1.one (Lf.bool p1)] []) (brP (decide (p0 = (1 : Int))) (Q [V1.one (Lf.bool !p1)] []) (brP (decide (p0 = (2 : Int))) (Q [V1.one (Lf.bool !p2)] []) (brP (decide (p0 = (3 : Int))) (Q [V1.one (Lf.bool false)] []) True))))) (brP (!p1) (bound p0 (4 : Nat) ∧ brP (decide (p0 = (0 : Int))) (Q [V1.one (Lf.bool p1)] []) (brP (decide (p0 = (1 : Int))) (Q [V1.one (Lf.bool !p1)] []) (brP (decide (p0 = (2 : Int))) (Q [V1.one (Lf.bool false)] []) (brP (decide (p0 = (3 : Int))) (Q [V1.one (Lf.bool p2)] []) True)))) (bound p0 (4 : Nat) ∧ brP (decide (p0 = (0 : Int))) (Q [V1.one (Lf.bool p1)] []) (brP (decide (p0 = (1 : Int))) (Q [V1.one (Lf.bool !p1)] []) (brP (decide (p0 = (2 : Int))) (Q [V1.one (Lf.bool false)] []) (brP (decide (p0 = (3 : Int))) (Q [V1.one (Lf.bool false)] []) True)))))
theorem t59_mono {Q : List V1 → List Ob → Prop} {Q' : List V1 → List Ob → Prop} (hq : ∀ r h, Q r h → Q' r h) (p0 : K.ty (K.int IntKind.i64)) (p1 : K.ty K.bool) (p2 : K.ty K.bool) :
    t59 Q p0 p1 p2 → t59 Q' p0 p1 p2 :=
  brM (brM (andM (id) (brM (hq _ _) (brM (hq _ _) (brM (hq _ _) (brM (hq _ _) (id)))))) (andM (id) (brM (hq _ _) (brM (hq _ _) (brM (hq _ _) (brM (hq _ _) (id))))))) (brM (andM (id) (brM (hq _ _) (brM (hq _ _) (brM (hq _ _) (brM (hq _ _) (id)))))) (andM (id) (brM (hq _ _) (brM (hq _ _) (brM (hq _ _) (brM (hq _ _) (id)))))))
theorem t59_eq (Q : List V1 → List Ob → Prop) (p0 : K.ty (K.int IntKind.i64)) (p1 : K.ty K.bool) (p2 : K.ty K.bool) :
    t59 Q p0 p1 p2 = (afun tt E59 A59 Try.f59 (I59 p0 p1 p2) [] Q) := by kernel_rfl
def H59 (Q : List V1 → List Ob → Prop) (p0 : K.ty (K.int IntKind.i64)) (p1 : K.ty K.bool) (p2 : K.ty K.bool) : Prop := t59 Q p0 p1 p2
theorem ok59 (Q : List V1 → List Ob → Prop) (p0 : K.ty (K.int IntKind.i64)) (p1 : K.ty K.bool) (p2 : K.ty K.bool) (h : H59 Q p0 p1 p2) : Of (afun tt E59 A59 Try.f59 (I59 p0 p1 p2) [] Q) :=
  kcO (t59_eq Q p0 p1 p2) (t59_mono (fun _ _ h => h) p0 p1 p2 h)
theorem env59 : EnvOk Try.prog E59 := .nil
-- f60 "busbar/rungeval.writes" ['3', '4'] -> ['4', '4']
def A60 : Ann := []
def E60 : Env := []
def I60 (p0 : ((.int .i64) : K).ty) (p1 : (.bool : K).ty) : List V1 := [nfK (.int .i64) p0, nfK .bool p1]
def t60 (Q : List V1 → List Ob → Prop) (p0 : K.ty (K.int IntKind.i64)) (p1 : K.ty K.bool) : Prop :=
  bound p0 (4 : Nat) ∧ brP (decide (p0 = (0 : Int))) (bound (0 : Int) (2 : Nat) ∧ bound (1 : Int) (2 : Nat) ∧ Q [V1.one (Lf.bool p1), V1.one (Lf.bool true)] []) (brP (decide (p0 = (1 : Int))) (bound (0 : Int) (2 : Nat) ∧ bound (1 : Int) (2 : Nat) ∧ Q [V1.one (Lf.bool !p1), V1.one (Lf.bool true)] []) (brP (decide (p0 = (2 : Int))) (bound (0 : Int) (2 : Nat) ∧ bound (1 : Int) (2 : Nat) ∧ Q [V1.one (Lf.bool true), V1.one (Lf.bool p1)] []) (brP (decide (p0 = (3 : Int))) (bound (0 : Int) (2 : Nat) ∧ bound (1 : Int) (2 : Nat) ∧ Q [V1.one (Lf.bool false), V1.one (Lf.bool p1)] []) True)))
theorem t60_mono {Q : List V1 → List Ob → Prop} {Q' : List V1 → List Ob → Prop} (hq : ∀ r h, Q r h → Q' r h) (p0 : K.ty (K.int IntKind.i64)) (p1 : K.ty K.bool) :
    t60 Q p0 p1 → t60 Q' p0 p1 :=
  andM (id) (brM (andM (id) (andM (id) (hq _ _))) (brM (andM (id) (andM (id) (hq _ _))) (brM (andM (id) (andM (id) (hq _ _))) (brM (andM (id) (andM (id) (hq _ _))) (id)))))
theorem t60_eq (Q : List V1 → List Ob → Prop) (p0 : K.ty (K.int IntKind.i64)) (p1 : K.ty K.bool) :
    t60 Q p0 p1 = (afun tt E60 A60 Try.f60 (I60 p0 p1) [] Q) := by kernel_rfl
def H60 (Q : List V1 → List Ob → Prop) (p0 : K.ty (K.int IntKind.i64)) (p1 : K.ty K.bool) : Prop := t60 Q p0 p1
theorem ok60 (Q : List V1 → List Ob → Prop) (p0 : K.ty (K.int IntKind.i64)) (p1 : K.ty K.bool) (h : H60 Q p0 p1) : Of (afun tt E60 A60 Try.f60 (I60 p0 p1) [] Q) :=
  kcO (t60_eq Q p0 p1) (t60_mono (fun _ _ h => h) p0 p1 h)
theorem env60 : EnvOk Try.prog E60 := .nil
theorem spec58 : SpecOk Try.prog 58 sp58 := S3.ok tt_ok mixed env58 Try.func58 fun l s a Q h => ok58 Q l s a <| by
  unfold F58 readS at h
  refine brP_intro (fun c => by simpa [c] using h) (fun c => ?_)
  refine brP_intro (fun d => by simpa [c, d] using h) (fun d => ?_)
  simp only [c, d, cond_false] at h
  simp at c d
  refine ⟨⟨by omega, by omega⟩, ?_⟩
  refine brP_intro (fun e => ?_) (fun e => ?_)
  · simp at e; simpa [img, e] using h
  · refine brP_intro (fun f => ?_) (fun f => ?_)
    · simp at e f; simpa [img, e, f] using h
    · refine brP_intro (fun g => ?_) (fun g => trivial)
      simp at e f g; simpa [img, e, f, g] using h
theorem spec55 : SpecOk Try.prog 55 sp55 := S3.ok tt_ok mixed env55 Try.func55 fun s k a Q h => ok55 Q s k a <| by
  unfold F55 partE at h
  refine brP_intro (fun c => by simpa [c] using h) (fun c => ?_)
  exact brP_intro (fun d => by simpa [c, d] using h) (fun d => by simpa [c, d] using h)
theorem spec59 : SpecOk Try.prog 59 sp59 := S3.ok tt_ok mixed env59 Try.func59 fun k v was Q h => ok59 Q k v was <| by
  obtain ⟨hb, h⟩ := h
  obtain ⟨h0, h4⟩ := hb
  unfold conducting at h
  have key : ∀ b2 b3 : Bool, b2 = (v && !was) → b3 = (!v && was) → bound k 4 ∧ brP (decide (k = (0 : Int))) (Q [V1.one (Lf.bool v)] []) (brP (decide (k = (1 : Int))) (Q [V1.one (Lf.bool !v)] []) (brP (decide (k = (2 : Int))) (Q [V1.one (Lf.bool b2)] []) (brP (decide (k = (3 : Int))) (Q [V1.one (Lf.bool b3)] []) True))) := by
    rintro b2 b3 rfl rfl
    refine ⟨⟨h0, h4⟩, ?_⟩
    refine brP_intro (fun c => by simp at c; simpa [c] using h) (fun c => ?_)
    refine brP_intro (fun d => by simp at d; simpa [d] using h) (fun d => ?_)
    refine brP_intro (fun e => by simp at e; simpa [e] using h) (fun e => ?_)
    refine brP_intro (fun f => by simp at f; simpa [f] using h) (fun f => trivial)
  cases v <;> cases was <;> exact key _ _ rfl rfl
theorem spec60 : SpecOk Try.prog 60 sp60 := S2.ok tt_ok mixed env60 Try.func60 fun k v Q h => ok60 Q k v <| by
  obtain ⟨hb, h⟩ := h
  unfold writes at h
  refine ⟨hb, ?_⟩
  have b1 : bound 0 2 := ⟨by omega, by omega⟩
  have b2 : bound 1 2 := ⟨by omega, by omega⟩
  refine brP_intro (fun c => ⟨b1, b2, by simp at c; simpa [c] using h⟩) (fun c => ?_)
  refine brP_intro (fun d => ⟨b1, b2, by simp at d; simpa [d] using h⟩) (fun d => ?_)
  refine brP_intro (fun e => ⟨b1, b2, by simp at e; simpa [e] using h⟩) (fun e => ?_)
  refine brP_intro (fun f => ⟨b1, b2, by simp at f; simpa [f] using h⟩) (fun f => trivial)
theorem spec61 : SpecOk Try.prog 61 sp61 := S3.okS tt_ok mixed [k26, ki] env61 Try.func61 fun s a v Q h => ok61 _ s a v <| by
  obtain ⟨hs, h⟩ := h
  unfold writeS at h
  refine ⟨hs, ?_⟩
  refine brP_intro (fun c => ⟨hs.1, ?_⟩) (fun c => ?_)
  · refine brP_intro (fun d => ?_) (fun d => ?_)
    · simp only [c, d, cond_true] at h; exact h
    · simp only [c, d, cond_true, cond_false] at h; exact h
  · refine brP_intro (fun d => ⟨hs.2.1, ?_⟩) (fun d => ?_)
    · refine brP_intro (fun e => ?_) (fun e => ?_)
      · simp only [c, d, e, cond_true, cond_false] at h; exact h
      · simp only [c, d, e, cond_true, cond_false] at h; exact h
    · simp only [c, d, cond_false] at h; exact h
theorem spec24 : SpecOk Try.prog 24 sp24 := S2.ok tt_ok mixed env24 Try.func24 fun s st Q h => ok24 Q s st <| by
  unfold F24 fits at h
  have hw : ∀ x : Int, 0 ≤ x → x ≤ 3 → IntKind.i64.wrap (x + 1) = x + 1 := fun x h1 h2 => wrap_in (by omega) (by omega)
  obtain ⟨n, hn⟩ : ∃ n : Nat, n = 0 := ⟨_, rfl⟩
  refine ⟨n + 1 + 1 + 1 + 1, ?_⟩
  refine ⟨⟨by omega, by omega⟩, ⟨by omega, by omega⟩, ?_⟩
  refine brP_intro (fun _ => ?_) (fun c => by simp at c)
  refine brP_intro (fun c => ?_) (fun c => ?_)
  · have c : ¬ (st.1.length : Int) = s.2.1 := by simpa using c
    simpa [c, t24c0x0] using h
  have c : (st.1.length : Int) = s.2.1 := by simpa using c
  rw [hw 0 (by omega) (by omega)]
  refine ⟨⟨by omega, by omega⟩, ⟨by omega, by omega⟩, ?_⟩
  refine brP_intro (fun c => by simp at c) (fun _ => ?_)
  refine brP_intro (fun _ => ?_) (fun c => by simp at c)
  refine brP_intro (fun d => ?_) (fun d => ?_)
  · have d : ¬ (st.2.1.length : Int) = s.2.2.1 := by simpa using d
    simpa [c, d, t24c0x0] using h
  have d : (st.2.1.length : Int) = s.2.2.1 := by simpa using d
  rw [hw (0 + 1) (by omega) (by omega)]
  refine ⟨⟨by omega, by omega⟩, ⟨by omega, by omega⟩, ?_⟩
  refine brP_intro (fun c => by simp at c) (fun _ => ?_)
  refine brP_intro (fun c => by simp at c) (fun _ => ?_)
  refine brP_intro (fun _ => ?_) (fun c => by simp at c)
  refine brP_intro (fun e => ?_) (fun e => ?_)
  · have e : ¬ (st.2.2.length : Int) = s.2.2.2 := by simpa using e
    simpa [c, d, e, t24c0x0] using h
  have e : (st.2.2.length : Int) = s.2.2.2 := by simpa using e
  rw [hw (0 + 1 + 1) (by omega) (by omega)]
  show t24c0x1 Q s st _ _ _ _
  simpa [c, d, e, t24c0x1] using h
end Go.AM
namespace Go.AM
open Go.Proofs
-- f36 "busbar/printer.rung" ['60', '22', '46'] -> ['32']
def A36 : Ann := [(1, [3, 5, 30, 31, 32], [3, 5], [6]), (3, [3, 5, 61, 62, 63], [5], [6])]
def E36 : Env := [(37, sp37), (53, sp53), (54, sp54), (55, sp55)]
def I36 (p0 : (k59 : K).ty) (p1 : ((.slice 46 k45) : K).ty) (p2 : (k45 : K).ty) : List V1 := [nfK k59 p0, nfK (.slice 46 k45) p1, nfK k45 p2]
noncomputable def L36_1 : Code := Code.a (Code.a (Code.b (Code.a (Code.b (Code.b (Code.b (Func.code Try.f36)))))))
def S36_1 (l30 : List (K.ty k74)) (x31 : Int) (x32 : Int) (xh0_0 : Int) (xh0_1 : Int) (xh0_2 : Int) (xh0_3 : Int) (sh1_0 : ByteArray) (lh1_1 : List (K.ty k74)) (lh1_2 : List (K.ty k76)) (sh1_3 : ByteArray) : St := sp (90 : Nat) [((3 : Nat), V.v (V1.one (Lf.ptr (nat_lit 0) (nat_lit 0)))), ((5 : Nat), V.v (V1.one (Lf.ptr (nat_lit 1) (nat_lit 0)))), ((30 : Nat), V.v (V1.one (Lf.sl (75 : TypeId) k74 l30))), ((31 : Nat), V.v (V1.one (Lf.int IntKind.i64 x31))), ((32 : Nat), V.v (V1.one (Lf.int IntKind.i64 x32)))] [Ob.box (60 : Nat) [Lf.int IntKind.i64 xh0_0, Lf.int IntKind.i64 xh0_1, Lf.int IntKind.i64 xh0_2, Lf.int IntKind.i64 xh0_3], Ob.box (46 : Nat) [Lf.str sh1_0, Lf.sl (75 : TypeId) k74 lh1_1, Lf.sl (77 : TypeId) k76 lh1_2, Lf.str sh1_3]]
def X36_1_0 (x6 : Int) : St := sp (90 : Nat) [((6 : Nat), V.v (V1.one (Lf.int IntKind.i64 x6)))] []
def X36_1_1 (xh0_0 : Int) (xh0_1 : Int) (xh0_2 : Int) (xh0_3 : Int) (sh1_0 : ByteArray) (lh1_1 : List (K.ty k74)) (lh1_2 : List (K.ty k76)) (sh1_3 : ByteArray) : St := sp (90 : Nat) [((3 : Nat), V.v (V1.one (Lf.ptr (nat_lit 0) (nat_lit 0)))), ((5 : Nat), V.v (V1.one (Lf.ptr (nat_lit 1) (nat_lit 0))))] [Ob.box (60 : Nat) [Lf.int IntKind.i64 xh0_0, Lf.int IntKind.i64 xh0_1, Lf.int IntKind.i64 xh0_2, Lf.int IntKind.i64 xh0_3], Ob.box (46 : Nat) [Lf.str sh1_0, Lf.sl (75 : TypeId) k74 lh1_1, Lf.sl (77 : TypeId) k76 lh1_2, Lf.str sh1_3]]
noncomputable def L36_3 : Code := Code.a (Code.a (Code.b (Code.a (Code.b (Code.b (Code.b (Code.b (Code.b (Func.code Try.f36)))))))))
def S36_3 (l61 : List (K.ty k76)) (x62 : Int) (x63 : Int) (xh0_0 : Int) (xh0_1 : Int) (xh0_2 : Int) (xh0_3 : Int) (sh1_0 : ByteArray) (lh1_1 : List (K.ty k74)) (lh1_2 : List (K.ty k76)) (sh1_3 : ByteArray) : St := sp (90 : Nat) [((3 : Nat), V.v (V1.one (Lf.ptr (nat_lit 0) (nat_lit 0)))), ((5 : Nat), V.v (V1.one (Lf.ptr (nat_lit 1) (nat_lit 0)))), ((61 : Nat), V.v (V1.one (Lf.sl (77 : TypeId) k76 l61))), ((62 : Nat), V.v (V1.one (Lf.int IntKind.i64 x62))), ((63 : Nat), V.v (V1.one (Lf.int IntKind.i64 x63)))] [Ob.box (60 : Nat) [Lf.int IntKind.i64 xh0_0, Lf.int IntKind.i64 xh0_1, Lf.int IntKind.i64 xh0_2, Lf.int IntKind.i64 xh0_3], Ob.box (46 : Nat) [Lf.str sh1_0, Lf.sl (75 : TypeId) k74 lh1_1, Lf.sl (77 : TypeId) k76 lh1_2, Lf.str sh1_3]]
def X36_3_0 (x6 : Int) : St := sp (90 : Nat) [((6 : Nat), V.v (V1.one (Lf.int IntKind.i64 x6)))] []
def X36_3_1 (sh0_0 : ByteArray) (lh0_1 : List (K.ty k74)) (lh0_2 : List (K.ty k76)) (sh0_3 : ByteArray) : St := sp (90 : Nat) [((5 : Nat), V.v (V1.one (Lf.ptr (nat_lit 0) (nat_lit 0))))] [Ob.box (46 : Nat) [Lf.str sh0_0, Lf.sl (75 : TypeId) k74 lh0_1, Lf.sl (77 : TypeId) k76 lh0_2, Lf.str sh0_3]]
def t36_3 (again : List (K.ty k76) → Int → Int → Int → Int → Int → Int → ByteArray → List (K.ty k74) → List (K.ty k76) → ByteArray → Prop) (R0 : Int → Prop) (R1 : ByteArray → List (K.ty k74) → List (K.ty k76) → ByteArray → Prop) (l61 : List (K.ty k76)) (x62 : Int) (x63 : Int) (xh0_0 : Int) (xh0_1 : Int) (xh0_2 : Int) (xh0_3 : Int) (sh1_0 : ByteArray) (lh1_1 : List (K.ty k74)) (lh1_2 : List (K.ty k76)) (sh1_3 : ByteArray) : Prop :=
  brP (decide (x63 < x62)) (bound x63 (List.length l61) ∧ brP (partE (xh0_0, xh0_1, xh0_2, xh0_3) (getE k76 l61 x63).fst (getE k76 l61 x63).snd != (0 : Int)) (R0 (partE (xh0_0, xh0_1, xh0_2, xh0_3) (getE k76 l61 x63).fst (getE k76 l61 x63).snd)) (brP ((getE k76 l61 x63).snd.fst == (0 : Int)) (R0 (2 : Int)) (again l61 x62 (IntKind.wrap IntKind.i64 (x63 + (1 : Int))) xh0_0 xh0_1 xh0_2 xh0_3 sh1_0 lh1_1 lh1_2 sh1_3))) (R1 sh1_0 lh1_1 lh1_2 sh1_3)
theorem t36_3_mono {again : List (K.ty k76) → Int → Int → Int → Int → Int → Int → ByteArray → List (K.ty k74) → List (K.ty k76) → ByteArray → Prop} {R0 : Int → Prop} {R1 : ByteArray → List (K.ty k74) → List (K.ty k76) → ByteArray → Prop} {again' : List (K.ty k76) → Int → Int → Int → Int → Int → Int → ByteArray → List (K.ty k74) → List (K.ty k76) → ByteArray → Prop} {R0' : Int → Prop} {R1' : ByteArray → List (K.ty k74) → List (K.ty k76) → ByteArray → Prop} (ha : ∀ l61 x62 x63 xh0_0 xh0_1 xh0_2 xh0_3 sh1_0 lh1_1 lh1_2 sh1_3, again l61 x62 x63 xh0_0 xh0_1 xh0_2 xh0_3 sh1_0 lh1_1 lh1_2 sh1_3 → again' l61 x62 x63 xh0_0 xh0_1 xh0_2 xh0_3 sh1_0 lh1_1 lh1_2 sh1_3) (hr0 : ∀ x6, R0 x6 → R0' x6) (hr1 : ∀ sh0_0 lh0_1 lh0_2 sh0_3, R1 sh0_0 lh0_1 lh0_2 sh0_3 → R1' sh0_0 lh0_1 lh0_2 sh0_3) (l61 : List (K.ty k76)) (x62 : Int) (x63 : Int) (xh0_0 : Int) (xh0_1 : Int) (xh0_2 : Int) (xh0_3 : Int) (sh1_0 : ByteArray) (lh1_1 : List (K.ty k74)) (lh1_2 : List (K.ty k76)) (sh1_3 : ByteArray) :
    t36_3 again R0 R1 l61 x62 x63 xh0_0 xh0_1 xh0_2 xh0_3 sh1_0 lh1_1 lh1_2 sh1_3 → t36_3 again' R0' R1' l61 x62 x63 xh0_0 xh0_1 xh0_2 xh0_3 sh1_0 lh1_1 lh1_2 sh1_3 :=
  brM (andM (id) (brM (hr0 _) (brM (hr0 _) (ha _ _ _ _ _ _ _ _ _ _ _)))) (hr1 _ _ _ _)
theorem t36_3_eq (n : Nat) (Q : Ex → St → Prop) (l61 : List (K.ty k76)) (x62 : Int) (x63 : Int) (xh0_0 : Int) (xh0_1 : Int) (xh0_2 : Int) (xh0_3 : Int) (sh1_0 : ByteArray) (lh1_1 : List (K.ty k74)) (lh1_2 : List (K.ty k76)) (sh1_3 : ByteArray) :
    t36_3 (fun l61 x62 x63 xh0_0 xh0_1 xh0_2 xh0_3 sh1_0 lh1_1 lh1_2 sh1_3 => loopP (awp tt E36 A36 L36_3 3) ([(3 : Nat), (5 : Nat), (61 : Nat), (62 : Nat), (63 : Nat)], [(5 : Nat)], [(6 : Nat)]) n (S36_3 l61 x62 x63 xh0_0 xh0_1 xh0_2 xh0_3 sh1_0 lh1_1 lh1_2 sh1_3) Q) (fun x6 => Q (Ex.ret) (X36_3_0 x6)) (fun sh0_0 lh0_1 lh0_2 sh0_3 => Q (Ex.exit (nat_lit 3)) (X36_3_1 sh0_0 lh0_1 lh0_2 sh0_3)) l61 x62 x63 xh0_0 xh0_1 xh0_2 xh0_3 sh1_0 lh1_1 lh1_2 sh1_3 = (loopP (awp tt E36 A36 L36_3 3) ([(3 : Nat), (5 : Nat), (61 : Nat), (62 : Nat), (63 : Nat)], [(5 : Nat)], [(6 : Nat)]) (n + 1) (S36_3 l61 x62 x63 xh0_0 xh0_1 xh0_2 xh0_3 sh1_0 lh1_1 lh1_2 sh1_3) Q) := by kernel_rfl
def G36_3 (R0 : Int → Prop) (R1 : ByteArray → List (K.ty k74) → List (K.ty k76) → ByteArray → Prop) : Nat → List (K.ty k76) → Int → Int → Int → Int → Int → Int → ByteArray → List (K.ty k74) → List (K.ty k76) → ByteArray → Prop
  | 0, _, _, _, _, _, _, _, _, _, _, _ => False
  | n + 1, l61, x62, x63, xh0_0, xh0_1, xh0_2, xh0_3, sh1_0, lh1_1, lh1_2, sh1_3 => t36_3 (G36_3 R0 R1 n) R0 R1 l61 x62 x63 xh0_0 xh0_1 xh0_2 xh0_3 sh1_0 lh1_1 lh1_2 sh1_3
theorem T36_3 {R0 : Int → Prop} {R1 : ByteArray → List (K.ty k74) → List (K.ty k76) → ByteArray → Prop} (Q : Ex → St → Prop) (hr0 : ∀ x6, R0 x6 → Of (Q (Ex.ret) (X36_3_0 x6))) (hr1 : ∀ sh0_0 lh0_1 lh0_2 sh0_3, R1 sh0_0 lh0_1 lh0_2 sh0_3 → Of (Q (Ex.exit (nat_lit 3)) (X36_3_1 sh0_0 lh0_1 lh0_2 sh0_3))) : ∀ (n : Nat) (l61 : List (K.ty k76)) (x62 : Int) (x63 : Int) (xh0_0 : Int) (xh0_1 : Int) (xh0_2 : Int) (xh0_3 : Int) (sh1_0 : ByteArray) (lh1_1 : List (K.ty k74)) (lh1_2 : List (K.ty k76)) (sh1_3 : ByteArray), G36_3 R0 R1 n l61 x62 x63 xh0_0 xh0_1 xh0_2 xh0_3 sh1_0 lh1_1 lh1_2 sh1_3 → Of (loopP (awp tt E36 A36 L36_3 3) ([(3 : Nat), (5 : Nat), (61 : Nat), (62 : Nat), (63 : Nat)], [(5 : Nat)], [(6 : Nat)]) n (S36_3 l61 x62 x63 xh0_0 xh0_1 xh0_2 xh0_3 sh1_0 lh1_1 lh1_2 sh1_3) Q) := by
  intro n
  induction n with
  | zero => intro l61 x62 x63 xh0_0 xh0_1 xh0_2 xh0_3 sh1_0 lh1_1 lh1_2 sh1_3 h; exact h.elim
  | succ n ih =>
    intro l61 x62 x63 xh0_0 xh0_1 xh0_2 xh0_3 sh1_0 lh1_1 lh1_2 sh1_3 h
    exact kcO (t36_3_eq n Q l61 x62 x63 xh0_0 xh0_1 xh0_2 xh0_3 sh1_0 lh1_1 lh1_2 sh1_3) (t36_3_mono (fun _ _ _ _ _ _ _ _ _ _ _ h => (ih _ _ _ _ _ _ _ _ _ _ _ h).out) (fun _ h => (hr0 _ h).out) (fun _ _ _ _ h => (hr1 _ _ _ _ h).out) l61 x62 x63 xh0_0 xh0_1 xh0_2 xh0_3 sh1_0 lh1_1 lh1_2 sh1_3 h)
def t36_1 (again : List (K.ty k74) → Int → Int → Int → Int → Int → Int → ByteArray → List (K.ty k74) → List (K.ty k76) → ByteArray → Prop) (R0 : Int → Prop) (R1 : Int → Int → Int → Int → ByteArray → List (K.ty k74) → List (K.ty k76) → ByteArray → Prop) (l30 : List (K.ty k74)) (x31 : Int) (x32 : Int) (xh0_0 : Int) (xh0_1 : Int) (xh0_2 : Int) (xh0_3 : Int) (sh1_0 : ByteArray) (lh1_1 : List (K.ty k74)) (lh1_2 : List (K.ty k76)) (sh1_3 : ByteArray) : Prop :=
  brP (decide (x32 < x31)) (bound x32 (List.length l30) ∧ brP (partE (xh0_0, xh0_1, xh0_2, xh0_3) (getE k74 l30 x32).fst (getE k74 l30 x32).snd.fst != (0 : Int)) (R0 (partE (xh0_0, xh0_1, xh0_2, xh0_3) (getE k74 l30 x32).fst (getE k74 l30 x32).snd.fst)) (brP (!isName (getE k74 l30 x32).snd.snd.fst) (R0 (6 : Int)) (brP (!isName (getE k74 l30 x32).snd.snd.snd) (R0 (6 : Int)) (again l30 x31 (IntKind.wrap IntKind.i64 (x32 + (1 : Int))) xh0_0 xh0_1 xh0_2 xh0_3 sh1_0 lh1_1 lh1_2 sh1_3)))) (R1 xh0_0 xh0_1 xh0_2 xh0_3 sh1_0 lh1_1 lh1_2 sh1_3)
theorem t36_1_mono {again : List (K.ty k74) → Int → Int → Int → Int → Int → Int → ByteArray → List (K.ty k74) → List (K.ty k76) → ByteArray → Prop} {R0 : Int → Prop} {R1 : Int → Int → Int → Int → ByteArray → List (K.ty k74) → List (K.ty k76) → ByteArray → Prop} {again' : List (K.ty k74) → Int → Int → Int → Int → Int → Int → ByteArray → List (K.ty k74) → List (K.ty k76) → ByteArray → Prop} {R0' : Int → Prop} {R1' : Int → Int → Int → Int → ByteArray → List (K.ty k74) → List (K.ty k76) → ByteArray → Prop} (ha : ∀ l30 x31 x32 xh0_0 xh0_1 xh0_2 xh0_3 sh1_0 lh1_1 lh1_2 sh1_3, again l30 x31 x32 xh0_0 xh0_1 xh0_2 xh0_3 sh1_0 lh1_1 lh1_2 sh1_3 → again' l30 x31 x32 xh0_0 xh0_1 xh0_2 xh0_3 sh1_0 lh1_1 lh1_2 sh1_3) (hr0 : ∀ x6, R0 x6 → R0' x6) (hr1 : ∀ xh0_0 xh0_1 xh0_2 xh0_3 sh1_0 lh1_1 lh1_2 sh1_3, R1 xh0_0 xh0_1 xh0_2 xh0_3 sh1_0 lh1_1 lh1_2 sh1_3 → R1' xh0_0 xh0_1 xh0_2 xh0_3 sh1_0 lh1_1 lh1_2 sh1_3) (l30 : List (K.ty k74)) (x31 : Int) (x32 : Int) (xh0_0 : Int) (xh0_1 : Int) (xh0_2 : Int) (xh0_3 : Int) (sh1_0 : ByteArray) (lh1_1 : List (K.ty k74)) (lh1_2 : List (K.ty k76)) (sh1_3 : ByteArray) :
    t36_1 again R0 R1 l30 x31 x32 xh0_0 xh0_1 xh0_2 xh0_3 sh1_0 lh1_1 lh1_2 sh1_3 → t36_1 again' R0' R1' l30 x31 x32 xh0_0 xh0_1 xh0_2 xh0_3 sh1_0 lh1_1 lh1_2 sh1_3 :=
  brM (andM (id) (brM (hr0 _) (brM (hr0 _) (brM (hr0 _) (ha _ _ _ _ _ _ _ _ _ _ _))))) (hr1 _ _ _ _ _ _ _ _)
theorem t36_1_eq (n : Nat) (Q : Ex → St → Prop) (l30 : List (K.ty k74)) (x31 : Int) (x32 : Int) (xh0_0 : Int) (xh0_1 : Int) (xh0_2 : Int) (xh0_3 : Int) (sh1_0 : ByteArray) (lh1_1 : List (K.ty k74)) (lh1_2 : List (K.ty k76)) (sh1_3 : ByteArray) :
    t36_1 (fun l30 x31 x32 xh0_0 xh0_1 xh0_2 xh0_3 sh1_0 lh1_1 lh1_2 sh1_3 => loopP (awp tt E36 A36 L36_1 1) ([(3 : Nat), (5 : Nat), (30 : Nat), (31 : Nat), (32 : Nat)], [(3 : Nat), (5 : Nat)], [(6 : Nat)]) n (S36_1 l30 x31 x32 xh0_0 xh0_1 xh0_2 xh0_3 sh1_0 lh1_1 lh1_2 sh1_3) Q) (fun x6 => Q (Ex.ret) (X36_1_0 x6)) (fun xh0_0 xh0_1 xh0_2 xh0_3 sh1_0 lh1_1 lh1_2 sh1_3 => Q (Ex.exit (nat_lit 1)) (X36_1_1 xh0_0 xh0_1 xh0_2 xh0_3 sh1_0 lh1_1 lh1_2 sh1_3)) l30 x31 x32 xh0_0 xh0_1 xh0_2 xh0_3 sh1_0 lh1_1 lh1_2 sh1_3 = (loopP (awp tt E36 A36 L36_1 1) ([(3 : Nat), (5 : Nat), (30 : Nat), (31 : Nat), (32 : Nat)], [(3 : Nat), (5 : Nat)], [(6 : Nat)]) (n + 1) (S36_1 l30 x31 x32 xh0_0 xh0_1 xh0_2 xh0_3 sh1_0 lh1_1 lh1_2 sh1_3) Q) := by kernel_rfl
def G36_1 (R0 : Int → Prop) (R1 : Int → Int → Int → Int → ByteArray → List (K.ty k74) → List (K.ty k76) → ByteArray → Prop) : Nat → List (K.ty k74) → Int → Int → Int → Int → Int → Int → ByteArray → List (K.ty k74) → List (K.ty k76) → ByteArray → Prop
  | 0, _, _, _, _, _, _, _, _, _, _, _ => False
  | n + 1, l30, x31, x32, xh0_0, xh0_1, xh0_2, xh0_3, sh1_0, lh1_1, lh1_2, sh1_3 => t36_1 (G36_1 R0 R1 n) R0 R1 l30 x31 x32 xh0_0 xh0_1 xh0_2 xh0_3 sh1_0 lh1_1 lh1_2 sh1_3
theorem T36_1 {R0 : Int → Prop} {R1 : Int → Int → Int → Int → ByteArray → List (K.ty k74) → List (K.ty k76) → ByteArray → Prop} (Q : Ex → St → Prop) (hr0 : ∀ x6, R0 x6 → Of (Q (Ex.ret) (X36_1_0 x6))) (hr1 : ∀ xh0_0 xh0_1 xh0_2 xh0_3 sh1_0 lh1_1 lh1_2 sh1_3, R1 xh0_0 xh0_1 xh0_2 xh0_3 sh1_0 lh1_1 lh1_2 sh1_3 → Of (Q (Ex.exit (nat_lit 1)) (X36_1_1 xh0_0 xh0_1 xh0_2 xh0_3 sh1_0 lh1_1 lh1_2 sh1_3))) : ∀ (n : Nat) (l30 : List (K.ty k74)) (x31 : Int) (x32 : Int) (xh0_0 : Int) (xh0_1 : Int) (xh0_2 : Int) (xh0_3 : Int) (sh1_0 : ByteArray) (lh1_1 : List (K.ty k74)) (lh1_2 : List (K.ty k76)) (sh1_3 : ByteArray), G36_1 R0 R1 n l30 x31 x32 xh0_0 xh0_1 xh0_2 xh0_3 sh1_0 lh1_1 lh1_2 sh1_3 → Of (loopP (awp tt E36 A36 L36_1 1) ([(3 : Nat), (5 : Nat), (30 : Nat), (31 : Nat), (32 : Nat)], [(3 : Nat), (5 : Nat)], [(6 : Nat)]) n (S36_1 l30 x31 x32 xh0_0 xh0_1 xh0_2 xh0_3 sh1_0 lh1_1 lh1_2 sh1_3) Q) := by
  intro n
  induction n with
  | zero => intro l30 x31 x32 xh0_0 xh0_1 xh0_2 xh0_3 sh1_0 lh1_1 lh1_2 sh1_3 h; exact h.elim
  | succ n ih =>
    intro l30 x31 x32 xh0_0 xh0_1 xh0_2 xh0_3 sh1_0 lh1_1 lh1_2 sh1_3 h
    exact kcO (t36_1_eq n Q l30 x31 x32 xh0_0 xh0_1 xh0_2 xh0_3 sh1_0 lh1_1 lh1_2 sh1_3) (t36_1_mono (fun _ _ _ _ _ _ _ _ _ _ _ h => (ih _ _ _ _ _ _ _ _ _ _ _ h).out) (fun _ h => (hr0 _ h).out) (fun _ _ _ _ _ _ _ _ h => (hr1 _ _ _ _ _ _ _ _ h).out) l30 x31 x32 xh0_0 xh0_1 xh0_2 xh0_3 sh1_0 lh1_1 lh1_2 sh1_3 h)
def t36 (Q : List V1 → List Ob → Prop) (lp0 : K.ty k59 → K.ty (K.slice (46 : TypeId) k45) → K.ty k45 → Prop) (lp1 : K.ty k59 → K.ty (K.slice (46 : TypeId) k45) → K.ty k45 → Prop) (p0 : K.ty k59) (p1 : K.ty (K.slice (46 : TypeId) k45)) (p2 : K.ty k45) : Prop :=
  brP (ByteArray.toList p2.fst != ByteArray.toList (ByteArray.mk #[])) (brP (!isName p2.fst) (Q [V1.one (Lf.int IntKind.i64 (6 : Int))] []) (List.length p1 ≤ (4611686018427387904 : Nat) ∧ brP (decide ((0 : Int) ≤ idxP (fun (r : Rung) => decide (Rung.label r = Rung.label p2)) p1 (0 : Nat))) (Q [V1.one (Lf.int IntKind.i64 (9 : Int))] []) (brP (decide ((↑(List.length p2.snd.fst) : Int) > (256 : Int))) (Q [V1.one (Lf.int IntKind.i64 (10 : Int))] []) (lp0 p0 p1 p2)))) (brP (decide ((↑(List.length p2.snd.fst) : Int) > (256 : Int))) (Q [V1.one (Lf.int IntKind.i64 (10 : Int))] []) (lp1 p0 p1 p2))
theorem t36_mono {Q : List V1 → List Ob → Prop} {Q' : List V1 → List Ob → Prop} {lp0 : K.ty k59 → K.ty (K.slice (46 : TypeId) k45) → K.ty k45 → Prop} {lp1 : K.ty k59 → K.ty (K.slice (46 : TypeId) k45) → K.ty k45 → Prop} {lp0' : K.ty k59 → K.ty (K.slice (46 : TypeId) k45) → K.ty k45 → Prop} {lp1' : K.ty k59 → K.ty (K.slice (46 : TypeId) k45) → K.ty k45 → Prop} (hq : ∀ r h, Q r h → Q' r h) (hlp0 : ∀ p0 p1 p2, lp0 p0 p1 p2 → lp0' p0 p1 p2) (hlp1 : ∀ p0 p1 p2, lp1 p0 p1 p2 → lp1' p0 p1 p2) (p0 : K.ty k59) (p1 : K.ty (K.slice (46 : TypeId) k45)) (p2 : K.ty k45) :
    t36 Q lp0 lp1 p0 p1 p2 → t36 Q' lp0' lp1' p0 p1 p2 :=
  brM (brM (hq _ _) (andM (id) (brM (hq _ _) (brM (hq _ _) (hlp0 _ _ _))))) (brM (hq _ _) (hlp1 _ _ _))
theorem t36_eq (Q : List V1 → List Ob → Prop) (p0 : K.ty k59) (p1 : K.ty (K.slice (46 : TypeId) k45)) (p2 : K.ty k45) :
    t36 Q (fun p0 p1 p2 => ∃ m, loopP (awp tt E36 A36 L36_1 1) ([(3 : Nat), (5 : Nat), (30 : Nat), (31 : Nat), (32 : Nat)], [(3 : Nat), (5 : Nat)], [(6 : Nat)]) m (S36_1 (p2.snd.fst) ((↑(List.length p2.snd.fst) : Int)) ((0 : Int)) (p0.fst) (p0.snd.fst) (p0.snd.snd.fst) (p0.snd.snd.snd) (p2.fst) (p2.snd.fst) (p2.snd.snd.fst) (p2.snd.snd.snd)) (blkC (1 : Nat) (seqC (awp tt E36 A36 (Code.b (Code.b (Code.b (Code.b (Func.code Try.f36))))) (0 : Nat)) (topC tt Try.f36 0 Q)))) (fun p0 p1 p2 => ∃ m, loopP (awp tt E36 A36 L36_1 1) ([(3 : Nat), (5 : Nat), (30 : Nat), (31 : Nat), (32 : Nat)], [(3 : Nat), (5 : Nat)], [(6 : Nat)]) m (S36_1 (p2.snd.fst) ((↑(List.length p2.snd.fst) : Int)) ((0 : Int)) (p0.fst) (p0.snd.fst) (p0.snd.snd.fst) (p0.snd.snd.snd) (p2.fst) (p2.snd.fst) (p2.snd.snd.fst) (p2.snd.snd.snd)) (blkC (1 : Nat) (seqC (awp tt E36 A36 (Code.b (Code.b (Code.b (Code.b (Func.code Try.f36))))) (0 : Nat)) (topC tt Try.f36 0 Q)))) p0 p1 p2 = (afun tt E36 A36 Try.f36 (I36 p0 p1 p2) [] Q) := by kernel_rfl
def t36c1x1 (Q : List V1 → List Ob → Prop) (lp0 : K.ty k59 → K.ty (K.slice (46 : TypeId) k45) → K.ty k45 → Int → Int → Int → Int → ByteArray → List (K.ty k74) → List (K.ty k76) → ByteArray → Prop) (p0 : K.ty k59) (p1 : K.ty (K.slice (46 : TypeId) k45)) (p2 : K.ty k45) (xh0_0e3 : Int) (xh0_1e3 : Int) (xh0_2e3 : Int) (xh0_3e3 : Int) (sh1_0e3 : ByteArray) (lh1_1e3 : List (K.ty k74)) (lh1_2e3 : List (K.ty k76)) (sh1_3e3 : ByteArray) : Prop :=
  brP (decide ((↑(List.length lh1_2e3) : Int) > (16 : Int))) (Q [V1.one (Lf.int IntKind.i64 (10 : Int))] []) (lp0 p0 p1 p2 xh0_0e3 xh0_1e3 xh0_2e3 xh0_3e3 sh1_0e3 lh1_1e3 lh1_2e3 sh1_3e3)
theorem t36c1x1_mono {Q : List V1 → List Ob → Prop} {Q' : List V1 → List Ob → Prop} {lp0 : K.ty k59 → K.ty (K.slice (46 : TypeId) k45) → K.ty k45 → Int → Int → Int → Int → ByteArray → List (K.ty k74) → List (K.ty k76) → ByteArray → Prop} {lp0' : K.ty k59 → K.ty (K.slice (46 : TypeId) k45) → K.ty k45 → Int → Int → Int → Int → ByteArray → List (K.ty k74) → List (K.ty k76) → ByteArray → Prop} (hq : ∀ r h, Q r h → Q' r h) (hlp0 : ∀ p0 p1 p2 xh0_0e3 xh0_1e3 xh0_2e3 xh0_3e3 sh1_0e3 lh1_1e3 lh1_2e3 sh1_3e3, lp0 p0 p1 p2 xh0_0e3 xh0_1e3 xh0_2e3 xh0_3e3 sh1_0e3 lh1_1e3 lh1_2e3 sh1_3e3 → lp0' p0 p1 p2 xh0_0e3 xh0_1e3 xh0_2e3 xh0_3e3 sh1_0e3 lh1_1e3 lh1_2e3 sh1_3e3) (p0 : K.ty k59) (p1 : K.ty (K.slice (46 : TypeId) k45)) (p2 : K.ty k45) (xh0_0e3 : Int) (xh0_1e3 : Int) (xh0_2e3 : Int) (xh0_3e3 : Int) (sh1_0e3 : ByteArray) (lh1_1e3 : List (K.ty k74)) (lh1_2e3 : List (K.ty k76)) (sh1_3e3 : ByteArray) :
    t36c1x1 Q lp0 p0 p1 p2 xh0_0e3 xh0_1e3 xh0_2e3 xh0_3e3 sh1_0e3 lh1_1e3 lh1_2e3 sh1_3e3 → t36c1x1 Q' lp0' p0 p1 p2 xh0_0e3 xh0_1e3 xh0_2e3 xh0_3e3 sh1_0e3 lh1_1e3 lh1_2e3 sh1_3e3 :=
  brM (hq _ _) (hlp0 _ _ _ _ _ _ _ _ _ _ _)
theorem t36c1x1_eq (Q : List V1 → List Ob → Prop) (p0 : K.ty k59) (p1 : K.ty (K.slice (46 : TypeId) k45)) (p2 : K.ty k45) (xh0_0e3 : Int) (xh0_1e3 : Int) (xh0_2e3 : Int) (xh0_3e3 : Int) (sh1_0e3 : ByteArray) (lh1_1e3 : List (K.ty k74)) (lh1_2e3 : List (K.ty k76)) (sh1_3e3 : ByteArray) :
    t36c1x1 Q (fun p0 p1 p2 xh0_0e3 xh0_1e3 xh0_2e3 xh0_3e3 sh1_0e3 lh1_1e3 lh1_2e3 sh1_3e3 => ∃ m, loopP (awp tt E36 A36 L36_3 3) ([(3 : Nat), (5 : Nat), (61 : Nat), (62 : Nat), (63 : Nat)], [(5 : Nat)], [(6 : Nat)]) m (S36_3 (lh1_2e3) ((↑(List.length lh1_2e3) : Int)) ((0 : Int)) (xh0_0e3) (xh0_1e3) (xh0_2e3) (xh0_3e3) (sh1_0e3) (lh1_1e3) (lh1_2e3) (sh1_3e3)) (blkC (3 : Nat) (seqC (awp tt E36 A36 (Code.b (Code.b (Code.b (Code.b (Code.b (Code.b (Func.code Try.f36))))))) (0 : Nat)) (topC tt Try.f36 0 Q)))) p0 p1 p2 xh0_0e3 xh0_1e3 xh0_2e3 xh0_3e3 sh1_0e3 lh1_1e3 lh1_2e3 sh1_3e3 = ((blkC (1 : Nat) (seqC (awp tt E36 A36 (Code.b (Code.b (Code.b (Code.b (Func.code Try.f36))))) (0 : Nat)) (topC tt Try.f36 0 Q))) (Ex.exit (nat_lit 1)) (X36_1_1 xh0_0e3 xh0_1e3 xh0_2e3 xh0_3e3 sh1_0e3 lh1_1e3 lh1_2e3 sh1_3e3)) := by kernel_rfl
def t36c1x1c0x1 (Q : List V1 → List Ob → Prop) (p0 : K.ty k59) (p1 : K.ty (K.slice (46 : TypeId) k45)) (p2 : K.ty k45) (xh0_0e3 : Int) (xh0_1e3 : Int) (xh0_2e3 : Int) (xh0_3e3 : Int) (sh1_0e3 : ByteArray) (lh1_1e3 : List (K.ty k74)) (lh1_2e3 : List (K.ty k76)) (sh1_3e3 : ByteArray) (sh0_0e11 : ByteArray) (lh0_1e11 : List (K.ty k74)) (lh0_2e11 : List (K.ty k76)) (sh0_3e11 : ByteArray) : Prop :=
  brP (ByteArray.toList sh0_3e11 != ByteArray.toList (ByteArray.mk #[])) (brP (!isName sh0_3e11) (Q [V1.one (Lf.int IntKind.i64 (6 : Int))] []) (Q [V1.one (Lf.int IntKind.i64 (0 : Int))] [])) (Q [V1.one (Lf.int IntKind.i64 (0 : Int))] [])
theorem t36c1x1c0x1_mono {Q : List V1 → List Ob → Prop} {Q' : List V1 → List Ob → Prop} (hq : ∀ r h, Q r h → Q' r h) (p0 : K.ty k59) (p1 : K.ty (K.slice (46 : TypeId) k45)) (p2 : K.ty k45) (xh0_0e3 : Int) (xh0_1e3 : Int) (xh0_2e3 : Int) (xh0_3e3 : Int) (sh1_0e3 : ByteArray) (lh1_1e3 : List (K.ty k74)) (lh1_2e3 : List (K.ty k76)) (sh1_3e3 : ByteArray) (sh0_0e11 : ByteArray) (lh0_1e11 : List (K.ty k74)) (lh0_2e11 : List (K.ty k76)) (sh0_3e11 : ByteArray) :
    t36c1x1c0x1 Q p0 p1 p2 xh0_0e3 xh0_1e3 xh0_2e3 xh0_3e3 sh1_0e3 lh1_1e3 lh1_2e3 sh1_3e3 sh0_0e11 lh0_1e11 lh0_2e11 sh0_3e11 → t36c1x1c0x1 Q' p0 p1 p2 xh0_0e3 xh0_1e3 xh0_2e3 xh0_3e3 sh1_0e3 lh1_1e3 lh1_2e3 sh1_3e3 sh0_0e11 lh0_1e11 lh0_2e11 sh0_3e11 :=
  brM (brM (hq _ _) (hq _ _)) (hq _ _)
theorem t36c1x1c0x1_eq (Q : List V1 → List Ob → Prop) (p0 : K.ty k59) (p1 : K.ty (K.slice (46 : TypeId) k45)) (p2 : K.ty k45) (xh0_0e3 : Int) (xh0_1e3 : Int) (xh0_2e3 : Int) (xh0_3e3 : Int) (sh1_0e3 : ByteArray) (lh1_1e3 : List (K.ty k74)) (lh1_2e3 : List (K.ty k76)) (sh1_3e3 : ByteArray) (sh0_0e11 : ByteArray) (lh0_1e11 : List (K.ty k74)) (lh0_2e11 : List (K.ty k76)) (sh0_3e11 : ByteArray) :
    t36c1x1c0x1 Q p0 p1 p2 xh0_0e3 xh0_1e3 xh0_2e3 xh0_3e3 sh1_0e3 lh1_1e3 lh1_2e3 sh1_3e3 sh0_0e11 lh0_1e11 lh0_2e11 sh0_3e11 = ((blkC (3 : Nat) (seqC (awp tt E36 A36 (Code.b (Code.b (Code.b (Code.b (Code.b (Code.b (Func.code Try.f36))))))) (0 : Nat)) (topC tt Try.f36 0 Q))) (Ex.exit (nat_lit 3)) (X36_3_1 sh0_0e11 lh0_1e11 lh0_2e11 sh0_3e11)) := by kernel_rfl
def t36c1x1c0x0 (Q : List V1 → List Ob → Prop) (p0 : K.ty k59) (p1 : K.ty (K.slice (46 : TypeId) k45)) (p2 : K.ty k45) (xh0_0e3 : Int) (xh0_1e3 : Int) (xh0_2e3 : Int) (xh0_3e3 : Int) (sh1_0e3 : ByteArray) (lh1_1e3 : List (K.ty k74)) (lh1_2e3 : List (K.ty k76)) (sh1_3e3 : ByteArray) (x6e11 : Int) : Prop :=
  Q [V1.one (Lf.int IntKind.i64 x6e11)] []
theorem t36c1x1c0x0_mono {Q : List V1 → List Ob → Prop} {Q' : List V1 → List Ob → Prop} (hq : ∀ r h, Q r h → Q' r h) (p0 : K.ty k59) (p1 : K.ty (K.slice (46 : TypeId) k45)) (p2 : K.ty k45) (xh0_0e3 : Int) (xh0_1e3 : Int) (xh0_2e3 : Int) (xh0_3e3 : Int) (sh1_0e3 : ByteArray) (lh1_1e3 : List (K.ty k74)) (lh1_2e3 : List (K.ty k76)) (sh1_3e3 : ByteArray) (x6e11 : Int) :
    t36c1x1c0x0 Q p0 p1 p2 xh0_0e3 xh0_1e3 xh0_2e3 xh0_3e3 sh1_0e3 lh1_1e3 lh1_2e3 sh1_3e3 x6e11 → t36c1x1c0x0 Q' p0 p1 p2 xh0_0e3 xh0_1e3 xh0_2e3 xh0_3e3 sh1_0e3 lh1_1e3 lh1_2e3 sh1_3e3 x6e11 :=
  hq _ _
theorem t36c1x1c0x0_eq (Q : List V1 → List Ob → Prop) (p0 : K.ty k59) (p1 : K.ty (K.slice (46 : TypeId) k45)) (p2 : K.ty k45) (xh0_0e3 : Int) (xh0_1e3 : Int) (xh0_2e3 : Int) (xh0_3e3 : Int) (sh1_0e3 : ByteArray) (lh1_1e3 : List (K.ty k74)) (lh1_2e3 : List (K.ty k76)) (sh1_3e3 : ByteArray) (x6e11 : Int) :
    t36c1x1c0x0 Q p0 p1 p2 xh0_0e3 xh0_1e3 xh0_2e3 xh0_3e3 sh1_0e3 lh1_1e3 lh1_2e3 sh1_3e3 x6e11 = ((blkC (3 : Nat) (seqC (awp tt E36 A36 (Code.b (Code.b (Code.b (Code.b (Code.b (Code.b (Func.code Try.f36))))))) (0 : Nat)) (topC tt Try.f36 0 Q))) (Ex.ret) (X36_3_0 x6e11)) := by kernel_rfl
def t36c1x0 (Q : List V1 → List Ob → Prop) (p0 : K.ty k59) (p1 : K.ty (K.slice (46 : TypeId) k45)) (p2 : K.ty k45) (x6e3 : Int) : Prop :=
  Q [V1.one (Lf.int IntKind.i64 x6e3)] []
theorem t36c1x0_mono {Q : List V1 → List Ob → Prop} {Q' : List V1 → List Ob → Prop} (hq : ∀ r h, Q r h → Q' r h) (p0 : K.ty k59) (p1 : K.ty (K.slice (46 : TypeId) k45)) (p2 : K.ty k45) (x6e3 : Int) :
    t36c1x0 Q p0 p1 p2 x6e3 → t36c1x0 Q' p0 p1 p2 x6e3 :=
  hq _ _
theorem t36c1x0_eq (Q : List V1 → List Ob → Prop) (p0 : K.ty k59) (p1 : K.ty (K.slice (46 : TypeId) k45)) (p2 : K.ty k45) (x6e3 : Int) :
    t36c1x0 Q p0 p1 p2 x6e3 = ((blkC (1 : Nat) (seqC (awp tt E36 A36 (Code.b (Code.b (Code.b (Code.b (Func.code Try.f36))))) (0 : Nat)) (topC tt Try.f36 0 Q))) (Ex.ret) (X36_1_0 x6e3)) := by kernel_rfl
def t36c0x1 (Q : List V1 → List Ob → Prop) (lp0 : K.ty k59 → K.ty (K.slice (46 : TypeId) k45) → K.ty k45 → Int → Int → Int → Int → ByteArray → List (K.ty k74) → List (K.ty k76) → ByteArray → Prop) (p0 : K.ty k59) (p1 : K.ty (K.slice (46 : TypeId) k45)) (p2 : K.ty k45) (xh0_0e3 : Int) (xh0_1e3 : Int) (xh0_2e3 : Int) (xh0_3e3 : Int) (sh1_0e3 : ByteArray) (lh1_1e3 : List (K.ty k74)) (lh1_2e3 : List (K.ty k76)) (sh1_3e3 : ByteArray) : Prop :=
  brP (decide ((↑(List.length lh1_2e3) : Int) > (16 : Int))) (Q [V1.one (Lf.int IntKind.i64 (10 : Int))] []) (lp0 p0 p1 p2 xh0_0e3 xh0_1e3 xh0_2e3 xh0_3e3 sh1_0e3 lh1_1e3 lh1_2e3 sh1_3e3)
theorem t36c0x1_mono {Q : List V1 → List Ob → Prop} {Q' : List V1 → List Ob → Prop} {lp0 : K.ty k59 → K.ty (K.slice (46 : TypeId) k45) → K.ty k45 → Int → Int → Int → Int → ByteArray → List (K.ty k74) → List (K.ty k76) → ByteArray → Prop} {lp0' : K.ty k59 → K.ty (K.slice (46 : TypeId) k45) → K.ty k45 → Int → Int → Int → Int → ByteArray → List (K.ty k74) → List (K.ty k76) → ByteArray → Prop} (hq : ∀ r h, Q r h → Q' r h) (hlp0 : ∀ p0 p1 p2 xh0_0e3 xh0_1e3 xh0_2e3 xh0_3e3 sh1_0e3 lh1_1e3 lh1_2e3 sh1_3e3, lp0 p0 p1 p2 xh0_0e3 xh0_1e3 xh0_2e3 xh0_3e3 sh1_0e3 lh1_1e3 lh1_2e3 sh1_3e3 → lp0' p0 p1 p2 xh0_0e3 xh0_1e3 xh0_2e3 xh0_3e3 sh1_0e3 lh1_1e3 lh1_2e3 sh1_3e3) (p0 : K.ty k59) (p1 : K.ty (K.slice (46 : TypeId) k45)) (p2 : K.ty k45) (xh0_0e3 : Int) (xh0_1e3 : Int) (xh0_2e3 : Int) (xh0_3e3 : Int) (sh1_0e3 : ByteArray) (lh1_1e3 : List (K.ty k74)) (lh1_2e3 : List (K.ty k76)) (sh1_3e3 : ByteArray) :
    t36c0x1 Q lp0 p0 p1 p2 xh0_0e3 xh0_1e3 xh0_2e3 xh0_3e3 sh1_0e3 lh1_1e3 lh1_2e3 sh1_3e3 → t36c0x1 Q' lp0' p0 p1 p2 xh0_0e3 xh0_1e3 xh0_2e3 xh0_3e3 sh1_0e3 lh1_1e3 lh1_2e3 sh1_3e3 :=
  brM (hq _ _) (hlp0 _ _ _ _ _ _ _ _ _ _ _)
theorem t36c0x1_eq (Q : List V1 → List Ob → Prop) (p0 : K.ty k59) (p1 : K.ty (K.slice (46 : TypeId) k45)) (p2 : K.ty k45) (xh0_0e3 : Int) (xh0_1e3 : Int) (xh0_2e3 : Int) (xh0_3e3 : Int) (sh1_0e3 : ByteArray) (lh1_1e3 : List (K.ty k74)) (lh1_2e3 : List (K.ty k76)) (sh1_3e3 : ByteArray) :
    t36c0x1 Q (fun p0 p1 p2 xh0_0e3 xh0_1e3 xh0_2e3 xh0_3e3 sh1_0e3 lh1_1e3 lh1_2e3 sh1_3e3 => ∃ m, loopP (awp tt E36 A36 L36_3 3) ([(3 : Nat), (5 : Nat), (61 : Nat), (62 : Nat), (63 : Nat)], [(5 : Nat)], [(6 : Nat)]) m (S36_3 (lh1_2e3) ((↑(List.length lh1_2e3) : Int)) ((0 : Int)) (xh0_0e3) (xh0_1e3) (xh0_2e3) (xh0_3e3) (sh1_0e3) (lh1_1e3) (lh1_2e3) (sh1_3e3)) (blkC (3 : Nat) (seqC (awp tt E36 A36 (Code.b (Code.b (Code.b (Code.b (Code.b (Code.b (Func.code Try.f36))))))) (0 : Nat)) (topC tt Try.f36 0 Q)))) p0 p1 p2 xh0_0e3 xh0_1e3 xh0_2e3 xh0_3e3 sh1_0e3 lh1_1e3 lh1_2e3 sh1_3e3 = ((blkC (1 : Nat) (seqC (awp tt E36 A36 (Code.b (Code.b (Code.b (Code.b (Func.code Try.f36))))) (0 : Nat)) (topC tt Try.f36 0 Q))) (Ex.exit (nat_lit 1)) (X36_1_1 xh0_0e3 xh0_1e3 xh0_2e3 xh0_3e3 sh1_0e3 lh1_1e3 lh1_2e3 sh1_3e3)) := by kernel_rfl
def t36c0x1c0x1 (Q : List V1 → List Ob → Prop) (p0 : K.ty k59) (p1 : K.ty (K.slice (46 : TypeId) k45)) (p2 : K.ty k45) (xh0_0e3 : Int) (xh0_1e3 : Int) (xh0_2e3 : Int) (xh0_3e3 : Int) (sh1_0e3 : ByteArray) (lh1_1e3 : List (K.ty k74)) (lh1_2e3 : List (K.ty k76)) (sh1_3e3 : ByteArray) (sh0_0e11 : ByteArray) (lh0_1e11 : List (K.ty k74)) (lh0_2e11 : List (K.ty k76)) (sh0_3e11 : ByteArray) : Prop :=
  brP (ByteArray.toList sh0_3e11 != ByteArray.toList (ByteArray.mk #[])) (brP (!isName sh0_3e11) (Q [V1.one (Lf.int IntKind.i64 (6 : Int))] []) (Q [V1.one (Lf.int IntKind.i64 (0 : Int))] [])) (Q [V1.one (Lf.int IntKind.i64 (0 : Int))] [])
theorem t36c0x1c0x1_mono {Q : List V1 → List Ob → Prop} {Q' : List V1 → List Ob → Prop} (hq : ∀ r h, Q r h → Q' r h) (p0 : K.ty k59) (p1 : K.ty (K.slice (46 : TypeId) k45)) (p2 : K.ty k45) (xh0_0e3 : Int) (xh0_1e3 : Int) (xh0_2e3 : Int) (xh0_3e3 : Int) (sh1_0e3 : ByteArray) (lh1_1e3 : List (K.ty k74)) (lh1_2e3 : List (K.ty k76)) (sh1_3e3 : ByteArray) (sh0_0e11 : ByteArray) (lh0_1e11 : List (K.ty k74)) (lh0_2e11 : List (K.ty k76)) (sh0_3e11 : ByteArray) :
    t36c0x1c0x1 Q p0 p1 p2 xh0_0e3 xh0_1e3 xh0_2e3 xh0_3e3 sh1_0e3 lh1_1e3 lh1_2e3 sh1_3e3 sh0_0e11 lh0_1e11 lh0_2e11 sh0_3e11 → t36c0x1c0x1 Q' p0 p1 p2 xh0_0e3 xh0_1e3 xh0_2e3 xh0_3e3 sh1_0e3 lh1_1e3 lh1_2e3 sh1_3e3 sh0_0e11 lh0_1e11 lh0_2e11 sh0_3e11 :=
  brM (brM (hq _ _) (hq _ _)) (hq _ _)
theorem t36c0x1c0x1_eq (Q : List V1 → List Ob → Prop) (p0 : K.ty k59) (p1 : K.ty (K.slice (46 : TypeId) k45)) (p2 : K.ty k45) (xh0_0e3 : Int) (xh0_1e3 : Int) (xh0_2e3 : Int) (xh0_3e3 : Int) (sh1_0e3 : ByteArray) (lh1_1e3 : List (K.ty k74)) (lh1_2e3 : List (K.ty k76)) (sh1_3e3 : ByteArray) (sh0_0e11 : ByteArray) (lh0_1e11 : List (K.ty k74)) (lh0_2e11 : List (K.ty k76)) (sh0_3e11 : ByteArray) :
    t36c0x1c0x1 Q p0 p1 p2 xh0_0e3 xh0_1e3 xh0_2e3 xh0_3e3 sh1_0e3 lh1_1e3 lh1_2e3 sh1_3e3 sh0_0e11 lh0_1e11 lh0_2e11 sh0_3e11 = ((blkC (3 : Nat) (seqC (awp tt E36 A36 (Code.b (Code.b (Code.b (Code.b (Code.b (Code.b (Func.code Try.f36))))))) (0 : Nat)) (topC tt Try.f36 0 Q))) (Ex.exit (nat_lit 3)) (X36_3_1 sh0_0e11 lh0_1e11 lh0_2e11 sh0_3e11)) := by kernel_rfl
def t36c0x1c0x0 (Q : List V1 → List Ob → Prop) (p0 : K.ty k59) (p1 : K.ty (K.slice (46 : TypeId) k45)) (p2 : K.ty k45) (xh0_0e3 : Int) (xh0_1e3 : Int) (xh0_2e3 : Int) (xh0_3e3 : Int) (sh1_0e3 : ByteArray) (lh1_1e3 : List (K.ty k74)) (lh1_2e3 : List (K.ty k76)) (sh1_3e3 : ByteArray) (x6e11 : Int) : Prop :=
  Q [V1.one (Lf.int IntKind.i64 x6e11)] []
theorem t36c0x1c0x0_mono {Q : List V1 → List Ob → Prop} {Q' : List V1 → List Ob → Prop} (hq : ∀ r h, Q r h → Q' r h) (p0 : K.ty k59) (p1 : K.ty (K.slice (46 : TypeId) k45)) (p2 : K.ty k45) (xh0_0e3 : Int) (xh0_1e3 : Int) (xh0_2e3 : Int) (xh0_3e3 : Int) (sh1_0e3 : ByteArray) (lh1_1e3 : List (K.ty k74)) (lh1_2e3 : List (K.ty k76)) (sh1_3e3 : ByteArray) (x6e11 : Int) :
    t36c0x1c0x0 Q p0 p1 p2 xh0_0e3 xh0_1e3 xh0_2e3 xh0_3e3 sh1_0e3 lh1_1e3 lh1_2e3 sh1_3e3 x6e11 → t36c0x1c0x0 Q' p0 p1 p2 xh0_0e3 xh0_1e3 xh0_2e3 xh0_3e3 sh1_0e3 lh1_1e3 lh1_2e3 sh1_3e3 x6e11 :=
  hq _ _
theorem t36c0x1c0x0_eq (Q : List V1 → List Ob → Prop) (p0 : K.ty k59) (p1 : K.ty (K.slice (46 : TypeId) k45)) (p2 : K.ty k45) (xh0_0e3 : Int) (xh0_1e3 : Int) (xh0_2e3 : Int) (xh0_3e3 : Int) (sh1_0e3 : ByteArray) (lh1_1e3 : List (K.ty k74)) (lh1_2e3 : List (K.ty k76)) (sh1_3e3 : ByteArray) (x6e11 : Int) :
    t36c0x1c0x0 Q p0 p1 p2 xh0_0e3 xh0_1e3 xh0_2e3 xh0_3e3 sh1_0e3 lh1_1e3 lh1_2e3 sh1_3e3 x6e11 = ((blkC (3 : Nat) (seqC (awp tt E36 A36 (Code.b (Code.b (Code.b (Code.b (Code.b (Code.b (Func.code Try.f36))))))) (0 : Nat)) (topC tt Try.f36 0 Q))) (Ex.ret) (X36_3_0 x6e11)) := by kernel_rfl
def t36c0x0 (Q : List V1 → List Ob → Prop) (p0 : K.ty k59) (p1 : K.ty (K.slice (46 : TypeId) k45)) (p2 : K.ty k45) (x6e3 : Int) : Prop :=
  Q [V1.one (Lf.int IntKind.i64 x6e3)] []
theorem t36c0x0_mono {Q : List V1 → List Ob → Prop} {Q' : List V1 → List Ob → Prop} (hq : ∀ r h, Q r h → Q' r h) (p0 : K.ty k59) (p1 : K.ty (K.slice (46 : TypeId) k45)) (p2 : K.ty k45) (x6e3 : Int) :
    t36c0x0 Q p0 p1 p2 x6e3 → t36c0x0 Q' p0 p1 p2 x6e3 :=
  hq _ _
theorem t36c0x0_eq (Q : List V1 → List Ob → Prop) (p0 : K.ty k59) (p1 : K.ty (K.slice (46 : TypeId) k45)) (p2 : K.ty k45) (x6e3 : Int) :
    t36c0x0 Q p0 p1 p2 x6e3 = ((blkC (1 : Nat) (seqC (awp tt E36 A36 (Code.b (Code.b (Code.b (Code.b (Func.code Try.f36))))) (0 : Nat)) (topC tt Try.f36 0 Q))) (Ex.ret) (X36_1_0 x6e3)) := by kernel_rfl
def H36 (Q : List V1 → List Ob → Prop) (p0 : K.ty k59) (p1 : K.ty (K.slice (46 : TypeId) k45)) (p2 : K.ty k45) : Prop := t36 Q (fun p0 p1 p2 => ∃ m, G36_1 (fun x6e3 => t36c0x0 Q p0 p1 p2 x6e3) (fun xh0_0e3 xh0_1e3 xh0_2e3 xh0_3e3 sh1_0e3 lh1_1e3 lh1_2e3 sh1_3e3 => t36c0x1 Q (fun p0 p1 p2 xh0_0e3 xh0_1e3 xh0_2e3 xh0_3e3 sh1_0e3 lh1_1e3 lh1_2e3 sh1_3e3 => ∃ m, G36_3 (fun x6e11 => t36c0x1c0x0 Q p0 p1 p2 xh0_0e3 xh0_1e3 xh0_2e3 xh0_3e3 sh1_0e3 lh1_1e3 lh1_2e3 sh1_3e3 x6e11) (fun sh0_0e11 lh0_1e11 lh0_2e11 sh0_3e11 => t36c0x1c0x1 Q p0 p1 p2 xh0_0e3 xh0_1e3 xh0_2e3 xh0_3e3 sh1_0e3 lh1_1e3 lh1_2e3 sh1_3e3 sh0_0e11 lh0_1e11 lh0_2e11 sh0_3e11) m (lh1_2e3) ((↑(List.length lh1_2e3) : Int)) ((0 : Int)) (xh0_0e3) (xh0_1e3) (xh0_2e3) (xh0_3e3) (sh1_0e3) (lh1_1e3) (lh1_2e3) (sh1_3e3)) p0 p1 p2 xh0_0e3 xh0_1e3 xh0_2e3 xh0_3e3 sh1_0e3 lh1_1e3 lh1_2e3 sh1_3e3) m (p2.snd.fst) ((↑(List.length p2.snd.fst) : Int)) ((0 : Int)) (p0.fst) (p0.snd.fst) (p0.snd.snd.fst) (p0.snd.snd.snd) (p2.fst) (p2.snd.fst) (p2.snd.snd.fst) (p2.snd.snd.snd)) (fun p0 p1 p2 => ∃ m, G36_1 (fun x6e3 => t36c1x0 Q p0 p1 p2 x6e3) (fun xh0_0e3 xh0_1e3 xh0_2e3 xh0_3e3 sh1_0e3 lh1_1e3 lh1_2e3 sh1_3e3 => t36c1x1 Q (fun p0 p1 p2 xh0_0e3 xh0_1e3 xh0_2e3 xh0_3e3 sh1_0e3 lh1_1e3 lh1_2e3 sh1_3e3 => ∃ m, G36_3 (fun x6e11 => t36c1x1c0x0 Q p0 p1 p2 xh0_0e3 xh0_1e3 xh0_2e3 xh0_3e3 sh1_0e3 lh1_1e3 lh1_2e3 sh1_3e3 x6e11) (fun sh0_0e11 lh0_1e11 lh0_2e11 sh0_3e11 => t36c1x1c0x1 Q p0 p1 p2 xh0_0e3 xh0_1e3 xh0_2e3 xh0_3e3 sh1_0e3 lh1_1e3 lh1_2e3 sh1_3e3 sh0_0e11 lh0_1e11 lh0_2e11 sh0_3e11) m (lh1_2e3) ((↑(List.length lh1_2e3) : Int)) ((0 : Int)) (xh0_0e3) (xh0_1e3) (xh0_2e3) (xh0_3e3) (sh1_0e3) (lh1_1e3) (lh1_2e3) (sh1_3e3)) p0 p1 p2 xh0_0e3 xh0_1e3 xh0_2e3 xh0_3e3 sh1_0e3 lh1_1e3 lh1_2e3 sh1_3e3) m (p2.snd.fst) ((↑(List.length p2.snd.fst) : Int)) ((0 : Int)) (p0.fst) (p0.snd.fst) (p0.snd.snd.fst) (p0.snd.snd.snd) (p2.fst) (p2.snd.fst) (p2.snd.snd.fst) (p2.snd.snd.snd)) p0 p1 p2
theorem ok36 (Q : List V1 → List Ob → Prop) (p0 : K.ty k59) (p1 : K.ty (K.slice (46 : TypeId) k45)) (p2 : K.ty k45) (h : H36 Q p0 p1 p2) : Of (afun tt E36 A36 Try.f36 (I36 p0 p1 p2) [] Q) :=
  kcO (t36_eq Q p0 p1 p2) (t36_mono (fun _ _ h => h) (fun p0 p1 p2 ⟨m, h⟩ => ⟨m, (T36_1 _ (fun x6e3 h => kcO (t36c0x0_eq _ _ _ _ _) (t36c0x0_mono (fun _ _ h => h) _ _ _ _ h)) (fun xh0_0e3 xh0_1e3 xh0_2e3 xh0_3e3 sh1_0e3 lh1_1e3 lh1_2e3 sh1_3e3 h => kcO (t36c0x1_eq _ _ _ _ _ _ _ _ _ _ _ _) (t36c0x1_mono (fun _ _ h => h) (fun p0 p1 p2 xh0_0e3 xh0_1e3 xh0_2e3 xh0_3e3 sh1_0e3 lh1_1e3 lh1_2e3 sh1_3e3 ⟨m, h⟩ => ⟨m, (T36_3 _ (fun x6e11 h => kcO (t36c0x1c0x0_eq _ _ _ _ _ _ _ _ _ _ _ _ _) (t36c0x1c0x0_mono (fun _ _ h => h) _ _ _ _ _ _ _ _ _ _ _ _ h)) (fun sh0_0e11 lh0_1e11 lh0_2e11 sh0_3e11 h => kcO (t36c0x1c0x1_eq _ _ _ _ _ _ _ _ _ _ _ _ _ _ _ _) (t36c0x1c0x1_mono (fun _ _ h => h) _ _ _ _ _ _ _ _ _ _ _ _ _ _ _ h)) m _ _ _ _ _ _ _ _ _ _ _ h).out⟩) _ _ _ _ _ _ _ _ _ _ _ h)) m _ _ _ _ _ _ _ _ _ _ _ h).out⟩) (fun p0 p1 p2 ⟨m, h⟩ => ⟨m, (T36_1 _ (fun x6e3 h => kcO (t36c1x0_eq _ _ _ _ _) (t36c1x0_mono (fun _ _ h => h) _ _ _ _ h)) (fun xh0_0e3 xh0_1e3 xh0_2e3 xh0_3e3 sh1_0e3 lh1_1e3 lh1_2e3 sh1_3e3 h => kcO (t36c1x1_eq _ _ _ _ _ _ _ _ _ _ _ _) (t36c1x1_mono (fun _ _ h => h) (fun p0 p1 p2 xh0_0e3 xh0_1e3 xh0_2e3 xh0_3e3 sh1_0e3 lh1_1e3 lh1_2e3 sh1_3e3 ⟨m, h⟩ => ⟨m, (T36_3 _ (fun x6e11 h => kcO (t36c1x1c0x0_eq _ _ _ _ _ _ _ _ _ _ _ _ _) (t36c1x1c0x0_mono (fun _ _ h => h) _ _ _ _ _ _ _ _ _ _ _ _ h)) (fun sh0_0e11 lh0_1e11 lh0_2e11 sh0_3e11 h => kcO (t36c1x1c0x1_eq _ _ _ _ _ _ _ _ _ _ _ _ _ _ _ _) (t36c1x1c0x1_mono (fun _ _ h => h) _ _ _ _ _ _ _ _ _ _ _ _ _ _ _ h)) m _ _ _ _ _ _ _ _ _ _ _ h).out⟩) _ _ _ _ _ _ _ _ _ _ _ h)) m _ _ _ _ _ _ _ _ _ _ _ h).out⟩) p0 p1 p2 h)
theorem env36 : EnvOk Try.prog E36 := .cons spec37 (by kernel_rfl) <| .cons spec53 (by kernel_rfl) <| .cons spec54 (by kernel_rfl) <| .cons spec55 (by kernel_rfl) <| .nil
theorem loop36a (l : List Con) (s : k59.ty) (x1 : ByteArray) (x2 : List Con) (x3 : List Coi) (x4 : ByteArray) (R0 : Int → Prop) (R1 : Int → Int → Int → Int → ByteArray → List Con → List Coi → ByteArray → Prop) (hl : l.length ≤ 1000000) :
    ∀ n (i : Nat), l.length - i < n → i ≤ l.length → (consE s (l.drop i) ≠ 0 → R0 (consE s (l.drop i))) → (consE s (l.drop i) = 0 → R1 s.1 s.2.1 s.2.2.1 s.2.2.2 x1 x2 x3 x4) →
      G36_1 R0 R1 n l l.length i s.1 s.2.1 s.2.2.1 s.2.2.2 x1 x2 x3 x4 := by
  intro n
  induction n with
  | zero => intro i h; omega
  | succ n ih =>
    intro i hn hi h0 h1
    refine brP_intro (fun c => ?_) (fun c => ?_)
    · have c : i < l.length := by simpa using c
      rw [getE_cons k74 l i c] at h0 h1
      simp only [consE] at h0 h1
      refine ⟨⟨by omega, by omega⟩, ?_⟩
      refine brP_intro (fun d => ?_) (fun d => ?_)
      · have d : (partE s (getE k74 l i).1 (getE k74 l i).2.1 != 0) = true := d
        simp only [d, cond_true] at h0
        exact h0 (by simpa using d)
      have d : (partE s (getE k74 l i).1 (getE k74 l i).2.1 != 0) = false := d
      simp only [d, cond_false] at h0 h1
      refine brP_intro (fun e => ?_) (fun e => ?_)
      · simp only [e, cond_true] at h0; exact h0 (by decide)
      simp only [e, cond_false] at h0 h1
      refine brP_intro (fun f => ?_) (fun f => ?_)
      · simp only [f, cond_true] at h0; exact h0 (by decide)
      simp only [f, cond_false] at h0 h1
      rw [wrap_in (by omega) (by omega)]
      exact ih (i + 1) (by omega) (by omega) h0 h1
    · have c : ¬ i < l.length := by simpa using c
      rw [List.drop_of_length_le (by omega)] at h1
      exact h1 rfl
theorem loop36b (l : List Coi) (s : k59.ty) (x1 : ByteArray) (x2 : List Con) (x3 : List Coi) (x4 : ByteArray) (R0 : Int → Prop) (R1 : ByteArray → List Con → List Coi → ByteArray → Prop) (hl : l.length ≤ 1000000) :
    ∀ n (i : Nat), l.length - i < n → i ≤ l.length → (coisE s (l.drop i) ≠ 0 → R0 (coisE s (l.drop i))) → (coisE s (l.drop i) = 0 → R1 x1 x2 x3 x4) →
      G36_3 R0 R1 n l l.length i s.1 s.2.1 s.2.2.1 s.2.2.2 x1 x2 x3 x4 := by
  intro n
  induction n with
  | zero => intro i h; omega
  | succ n ih =>
    intro i hn hi h0 h1
    refine brP_intro (fun c => ?_) (fun c => ?_)
    · have c : i < l.length := by simpa using c
      rw [getE_cons k76 l i c] at h0 h1
      simp only [coisE] at h0 h1
      refine ⟨⟨by omega, by omega⟩, ?_⟩
      refine brP_intro (fun d => ?_) (fun d => ?_)
      · have d : (partE s (getE k76 l i).1 (getE k76 l i).2 != 0) = true := d
        simp only [d, cond_true] at h0
        exact h0 (by simpa using d)
      have d : (partE s (getE k76 l i).1 (getE k76 l i).2 != 0) = false := d
      simp only [d, cond_false] at h0 h1
      refine brP_intro (fun e => ?_) (fun e => ?_)
      · simp only [e, cond_true] at h0; exact h0 (by decide)
      simp only [e, cond_false] at h0 h1
      rw [wrap_in (by omega) (by omega)]
      exact ih (i + 1) (by omega) (by omega) h0 h1
    · have c : ¬ i < l.length := by simpa using c
      rw [List.drop_of_length_le (by omega)] at h1
      exact h1 rfl
theorem tail36 (s : k59.ty) (r : Rung) (Q : QT) (h : Q [.one (.int .i64 (rungE2 s r))] []) (hc : decide ((r.contacts.length : Int) > 256) = false) :
    ∃ m, G36_1 (fun x => Q [.one (.int .i64 x)] []) (fun a b c d sh lh1 lh2 sh3 => brP (decide ((lh2.length : Int) > 16)) (Q [.one (.int .i64 10)] [])
      (∃ m, G36_3 (fun x => Q [.one (.int .i64 x)] []) (fun _ _ _ sh3 => brP (ByteArray.toList sh3 != ByteArray.toList (ByteArray.mk #[])) (brP (!isName sh3) (Q [.one (.int .i64 6)] []) (Q [.one (.int .i64 0)] [])) (Q [.one (.int .i64 0)] [])) m lh2 lh2.length 0 a b c d sh lh1 lh2 sh3))
      m r.contacts r.contacts.length 0 s.1 s.2.1 s.2.2.1 s.2.2.2 r.label r.contacts r.coils r.jump := by
  have hc : ¬ (r.contacts.length : Int) > 256 := by simpa using hc
  have hc' : decide (r.contacts.length > 256) = false := by simp; omega
  unfold rungE2 at h
  simp only [hc', cond_false] at h
  refine ⟨r.contacts.length + 1, loop36a r.contacts s _ _ _ _ _ _ (by omega) _ 0 (by omega) (by omega) (fun h0 => ?_) (fun h0 => ?_)⟩
  · rw [List.drop_zero] at h0 ⊢
    have e : (consE s r.contacts != 0) = true := by simpa using h0
    simp only [e, cond_true] at h
    exact h
  · rw [List.drop_zero] at h0
    have e : (consE s r.contacts != 0) = false := by simpa using h0
    simp only [e, cond_false] at h
    refine brP_intro (fun d => ?_) (fun d => ?_)
    · have d : decide (r.coils.length > 16) = true := by simp at d ⊢; omega
      simp only [d, cond_true] at h; exact h
    have d' : decide (r.coils.length > 16) = false := by simp at d ⊢; omega
    simp only [d', cond_false] at h
    simp at d
    refine ⟨r.coils.length + 1, loop36b r.coils s _ _ _ _ _ _ (by omega) _ 0 (by omega) (by omega) (fun h0 => ?_) (fun h0 => ?_)⟩
    · rw [List.drop_zero] at h0 ⊢
      have e : (coisE s r.coils != 0) = true := by simpa using h0
      simp only [e, cond_true] at h
      exact h
    · rw [List.drop_zero] at h0
      have e : (coisE s r.coils != 0) = false := by simpa using h0
      simp only [e, cond_false] at h
      have hb : (ByteArray.toList r.jump != ByteArray.toList (ByteArray.mk #[])) = !decide (r.jump = str0) := by rw [bne, strEq]
      refine brP_intro (fun f => ?_) (fun f => ?_)
      · rw [hb] at f
        simp only [f, Bool.true_and] at h
        exact brP_intro (fun g => by simpa only [g, cond_true] using h) (fun g => by simpa only [g, cond_false] using h)
      · rw [hb] at f
        simpa only [f, Bool.false_and, cond_false] using h
theorem spec36 : SpecOk Try.prog 36 sp36 := S3.ok tt_ok mixed env36 Try.func36 fun s ahead r Q h => ok36 Q s ahead r <| by
  obtain ⟨hl, h⟩ := h
  unfold rungE at h
  have hb : (ByteArray.toList r.fst != ByteArray.toList (ByteArray.mk #[])) = !decide (Rung.label r = str0) := by rw [bne, strEq]
  have tl : decide (((Rung.contacts r).length : Int) > 256) = true → Q [.one (.int .i64 (rungE2 s r))] [] → Q [.one (.int .i64 10)] [] := fun c h => by
    have c : decide ((Rung.contacts r).length > 256) = true := by simp at c ⊢; omega
    unfold rungE2 at h; simpa only [c, cond_true] using h
  refine brP_intro (fun c => ?_) (fun c => ?_)
  · rw [hb] at c
    simp only [c, Bool.true_and] at h
    refine brP_intro (fun d => ?_) (fun d => ⟨hl, ?_⟩)
    · have d : (!isName (Rung.label r)) = true := d
      simpa only [d, cond_true] using h
    have d : (!isName (Rung.label r)) = false := d
    simp only [d, cond_false] at h
    refine brP_intro (fun e => ?_) (fun e => ?_)
    · have e : decide (0 ≤ idxP (fun x => decide (Rung.label x = (Rung.label r))) ahead 0) = true := e
      simpa only [e, cond_true] using h
    have e : decide (0 ≤ idxP (fun x => decide (Rung.label x = (Rung.label r))) ahead 0) = false := e
    simp only [e, cond_false] at h
    exact brP_intro (fun f => tl f h) (fun f => tail36 s r Q h f)
  · rw [hb] at c
    simp only [c, Bool.false_and, cond_false] at h
    exact brP_intro (fun f => tl f h) (fun f => tail36 s r Q h f)
end Go.AM
namespace Go.AM
open Go.Proofs
-- f23 "busbar/printer.Check" ['24'] -> ['3', '32']
def A23 : Ann := [(1, [1, 4, 22, 23, 24], [1], [2, 3]), (3, [1, 42, 43, 44], [1], [2, 3])]
def E23 : Env := [(34, sp34), (35, sp35), (36, sp36), (37, sp37), (38, sp38)]
def I23 (p0 : (k23 : K).ty) : List V1 := [nfK k23 p0]
noncomputable def L23_1 : Code := Code.a (Code.a (Code.b (Code.a (Code.b (Code.b (Code.b (Func.code Try.f23)))))))
def S23_1 (l22 : List (K.ty k45)) (x23 : Int) (x24 : Int) (xh0_0 : Int) (xh0_1 : Int) (xh0_2 : Int) (lh0_3 : List (K.ty k45)) (xh1_0 : Int) (xh1_1 : Int) (xh1_2 : Int) (xh1_3 : Int) : St := sp (67 : Nat) [((1 : Nat), V.v (V1.one (Lf.ptr (nat_lit 0) (nat_lit 0)))), ((4 : Nat), V.v (V1.one (Lf.ptr (nat_lit 1) (nat_lit 0)))), ((22 : Nat), V.v (V1.one (Lf.sl (46 : TypeId) k45 l22))), ((23 : Nat), V.v (V1.one (Lf.int IntKind.i64 x23))), ((24 : Nat), V.v (V1.one (Lf.int IntKind.i64 x24)))] [Ob.box (24 : Nat) [Lf.int IntKind.i64 xh0_0, Lf.int IntKind.i64 xh0_1, Lf.int IntKind.i64 xh0_2, Lf.sl (46 : TypeId) k45 lh0_3], Ob.box (60 : Nat) [Lf.int IntKind.i64 xh1_0, Lf.int IntKind.i64 xh1_1, Lf.int IntKind.i64 xh1_2, Lf.int IntKind.i64 xh1_3]]
def X23_1_0 (x2 : Int) (x3 : Int) : St := sp (67 : Nat) [((2 : Nat), V.v (V1.one (Lf.int IntKind.i64 x2))), ((3 : Nat), V.v (V1.one (Lf.int IntKind.i64 x3)))] []
def X23_1_1 (xh0_0 : Int) (xh0_1 : Int) (xh0_2 : Int) (lh0_3 : List (K.ty k45)) : St := sp (67 : Nat) [((1 : Nat), V.v (V1.one (Lf.ptr (nat_lit 0) (nat_lit 0))))] [Ob.box (24 : Nat) [Lf.int IntKind.i64 xh0_0, Lf.int IntKind.i64 xh0_1, Lf.int IntKind.i64 xh0_2, Lf.sl (46 : TypeId) k45 lh0_3]]
noncomputable def L23_3 : Code := Code.a (Code.a (Code.b (Code.a (Code.b (Code.b (Code.b (Code.b (Func.code Try.f23))))))))
def S23_3 (l42 : List (K.ty k45)) (x43 : Int) (x44 : Int) (xh0_0 : Int) (xh0_1 : Int) (xh0_2 : Int) (lh0_3 : List (K.ty k45)) : St := sp (67 : Nat) [((1 : Nat), V.v (V1.one (Lf.ptr (nat_lit 0) (nat_lit 0)))), ((42 : Nat), V.v (V1.one (Lf.sl (46 : TypeId) k45 l42))), ((43 : Nat), V.v (V1.one (Lf.int IntKind.i64 x43))), ((44 : Nat), V.v (V1.one (Lf.int IntKind.i64 x44)))] [Ob.box (24 : Nat) [Lf.int IntKind.i64 xh0_0, Lf.int IntKind.i64 xh0_1, Lf.int IntKind.i64 xh0_2, Lf.sl (46 : TypeId) k45 lh0_3]]
def X23_3_0 (x2 : Int) (x3 : Int) : St := sp (67 : Nat) [((2 : Nat), V.v (V1.one (Lf.int IntKind.i64 x2))), ((3 : Nat), V.v (V1.one (Lf.int IntKind.i64 x3)))] []
def X23_3_1 (xh0_0 : Int) (xh0_1 : Int) (xh0_2 : Int) (lh0_3 : List (K.ty k45)) : St := sp (67 : Nat) [((1 : Nat), V.v (V1.one (Lf.ptr (nat_lit 0) (nat_lit 0))))] [Ob.box (24 : Nat) [Lf.int IntKind.i64 xh0_0, Lf.int IntKind.i64 xh0_1, Lf.int IntKind.i64 xh0_2, Lf.sl (46 : TypeId) k45 lh0_3]]
def t23_3 (again : List (K.ty k45) → Int → Int → Int → Int → Int → List (K.ty k45) → Prop) (R0 : Int → Int → Prop) (R1 : Int → Int → Int → List (K.ty k45) → Prop) (l42 : List (K.ty k45)) (x43 : Int) (x44 : Int) (xh0_0 : Int) (xh0_1 : Int) (xh0_2 : Int) (lh0_3 : List (K.ty k45)) : Prop :=
  brP (decide (x44 < x43)) (bound x44 (List.length l42) ∧ brP (ByteArray.toList (getE k45 l42 x44).snd.snd.snd != ByteArray.toList (ByteArray.mk #[])) (((0 : Int) ≤ IntKind.wrap IntKind.i64 (x44 + (1 : Int)) ∧ IntKind.wrap IntKind.i64 (x44 + (1 : Int)) ≤ (↑(List.length lh0_3) : Int) ∧ (↑(List.length lh0_3) : Int) ≤ (↑(List.length lh0_3) : Int)) ∧ List.length (List.drop (Int.toNat (IntKind.wrap IntKind.i64 (x44 + (1 : Int)))) (List.take (Int.toNat (↑(List.length lh0_3) : Int)) lh0_3)) ≤ (4611686018427387904 : Nat) ∧ brP (!decide ((0 : Int) ≤ idxP (fun (r : Rung) => decide (Rung.label r = Rung.jump (getE k45 l42 x44))) (List.drop (Int.toNat (IntKind.wrap IntKind.i64 (x44 + (1 : Int)))) (List.take (Int.toNat (↑(List.length lh0_3) : Int)) lh0_3)) (0 : Nat))) (R0 x44 (15 : Int)) (again l42 x43 (IntKind.wrap IntKind.i64 (x44 + (1 : Int))) xh0_0 xh0_1 xh0_2 lh0_3)) (again l42 x43 (IntKind.wrap IntKind.i64 (x44 + (1 : Int))) xh0_0 xh0_1 xh0_2 lh0_3)) (R1 xh0_0 xh0_1 xh0_2 lh0_3)
theorem t23_3_mono {again : List (K.ty k45) → Int → Int → Int → Int → Int → List (K.ty k45) → Prop} {R0 : Int → Int → Prop} {R1 : Int → Int → Int → List (K.ty k45) → Prop} {again' : List (K.ty k45) → Int → Int → Int → Int → Int → List (K.ty k45) → Prop} {R0' : Int → Int → Prop} {R1' : Int → Int → Int → List (K.ty k45) → Prop} (ha : ∀ l42 x43 x44 xh0_0 xh0_1 xh0_2 lh0_3, again l42 x43 x44 xh0_0 xh0_1 xh0_2 lh0_3 → again' l42 x43 x44 xh0_0 xh0_1 xh0_2 lh0_3) (hr0 : ∀ x2 x3, R0 x2 x3 → R0' x2 x3) (hr1 : ∀ xh0_0 xh0_1 xh0_2 lh0_3, R1 xh0_0 xh0_1 xh0_2 lh0_3 → R1' xh0_0 xh0_1 xh0_2 lh0_3) (l42 : List (K.ty k45)) (x43 : Int) (x44 : Int) (xh0_0 : Int) (xh0_1 : Int) (xh0_2 : Int) (lh0_3 : List (K.ty k45)) :
    t23_3 again R0 R1 l42 x43 x44 xh0_0 xh0_1 xh0_2 lh0_3 → t23_3 again' R0' R1' l42 x43 x44 xh0_0 xh0_1 xh0_2 lh0_3 :=
  brM (andM (id) (brM (andM (andM (id) (andM (id) (id))) (andM (id) (brM (hr0 _ _) (ha _ _ _ _ _ _ _)))) (ha _ _ _ _ _ _ _))) (hr1 _ _ _ _)
theorem t23_3_eq (n : Nat) (Q : Ex → St → Prop) (l42 : List (K.ty k45)) (x43 : Int) (x44 : Int) (xh0_0 : Int) (xh0_1 : Int) (xh0_2 : Int) (lh0_3 : List (K.ty k45)) :
    t23_3 (fun l42 x43 x44 xh0_0 xh0_1 xh0_2 lh0_3 => loopP (awp tt E23 A23 L23_3 3) ([(1 : Nat), (42 : Nat), (43 : Nat), (44 : Nat)], [(1 : Nat)], [(2 : Nat), (3 : Nat)]) n (S23_3 l42 x43 x44 xh0_0 xh0_1 xh0_2 lh0_3) Q) (fun x2 x3 => Q (Ex.ret) (X23_3_0 x2 x3)) (fun xh0_0 xh0_1 xh0_2 lh0_3 => Q (Ex.exit (nat_lit 3)) (X23_3_1 xh0_0 xh0_1 xh0_2 lh0_3)) l42 x43 x44 xh0_0 xh0_1 xh0_2 lh0_3 = (loopP (awp tt E23 A23 L23_3 3) ([(1 : Nat), (42 : Nat), (43 : Nat), (44 : Nat)], [(1 : Nat)], [(2 : Nat), (3 : Nat)]) (n + 1) (S23_3 l42 x43 x44 xh0_0 xh0_1 xh0_2 lh0_3) Q) := by kernel_rfl
def G23_3 (R0 : Int → Int → Prop) (R1 : Int → Int → Int → List (K.ty k45) → Prop) : Nat → List (K.ty k45) → Int → Int → Int → Int → Int → List (K.ty k45) → Prop
  | 0, _, _, _, _, _, _, _ => False
  | n + 1, l42, x43, x44, xh0_0, xh0_1, xh0_2, lh0_3 => t23_3 (G23_3 R0 R1 n) R0 R1 l42 x43 x44 xh0_0 xh0_1 xh0_2 lh0_3
theorem T23_3 {R0 : Int → Int → Prop} {R1 : Int → Int → Int → List (K.ty k45) → Prop} (Q : Ex → St → Prop) (hr0 : ∀ x2 x3, R0 x2 x3 → Of (Q (Ex.ret) (X23_3_0 x2 x3))) (hr1 : ∀ xh0_0 xh0_1 xh0_2 lh0_3, R1 xh0_0 xh0_1 xh0_2 lh0_3 → Of (Q (Ex.exit (nat_lit 3)) (X23_3_1 xh0_0 xh0_1 xh0_2 lh0_3))) : ∀ (n : Nat) (l42 : List (K.ty k45)) (x43 : Int) (x44 : Int) (xh0_0 : Int) (xh0_1 : Int) (xh0_2 : Int) (lh0_3 : List (K.ty k45)), G23_3 R0 R1 n l42 x43 x44 xh0_0 xh0_1 xh0_2 lh0_3 → Of (loopP (awp tt E23 A23 L23_3 3) ([(1 : Nat), (42 : Nat), (43 : Nat), (44 : Nat)], [(1 : Nat)], [(2 : Nat), (3 : Nat)]) n (S23_3 l42 x43 x44 xh0_0 xh0_1 xh0_2 lh0_3) Q) := by
  intro n
  induction n with
  | zero => intro l42 x43 x44 xh0_0 xh0_1 xh0_2 lh0_3 h; exact h.elim
  | succ n ih =>
    intro l42 x43 x44 xh0_0 xh0_1 xh0_2 lh0_3 h
    exact kcO (t23_3_eq n Q l42 x43 x44 xh0_0 xh0_1 xh0_2 lh0_3) (t23_3_mono (fun _ _ _ _ _ _ _ h => (ih _ _ _ _ _ _ _ h).out) (fun _ _ h => (hr0 _ _ h).out) (fun _ _ _ _ h => (hr1 _ _ _ _ h).out) l42 x43 x44 xh0_0 xh0_1 xh0_2 lh0_3 h)
def t23_1 (again : List (K.ty k45) → Int → Int → Int → Int → Int → List (K.ty k45) → Int → Int → Int → Int → Prop) (R0 : Int → Int → Prop) (R1 : Int → Int → Int → List (K.ty k45) → Prop) (l22 : List (K.ty k45)) (x23 : Int) (x24 : Int) (xh0_0 : Int) (xh0_1 : Int) (xh0_2 : Int) (lh0_3 : List (K.ty k45)) (xh1_0 : Int) (xh1_1 : Int) (xh1_2 : Int) (xh1_3 : Int) : Prop :=
  brP (decide (x24 < x23)) (bound x24 (List.length l22) ∧ ((0 : Int) ≤ (0 : Int) ∧ (0 : Int) ≤ x24 ∧ x24 ≤ (↑(List.length lh0_3) : Int)) ∧ List.length (List.drop (Int.toNat (0 : Int)) (List.take (Int.toNat x24) lh0_3)) ≤ (4611686018427387904 : Nat) ∧ brP (rungE (xh1_0, xh1_1, xh1_2, xh1_3) (List.drop (Int.toNat (0 : Int)) (List.take (Int.toNat x24) lh0_3)) (getE k45 l22 x24) != (0 : Int)) (R0 x24 (rungE (xh1_0, xh1_1, xh1_2, xh1_3) (List.drop (Int.toNat (0 : Int)) (List.take (Int.toNat x24) lh0_3)) (getE k45 l22 x24))) (again l22 x23 (IntKind.wrap IntKind.i64 (x24 + (1 : Int))) xh0_0 xh0_1 xh0_2 lh0_3 xh1_0 xh1_1 xh1_2 xh1_3)) (R1 xh0_0 xh0_1 xh0_2 lh0_3)
theorem t23_1_mono {again : List (K.ty k45) → Int → Int → Int → Int → Int → List (K.ty k45) → Int → Int → Int → Int → Prop} {R0 : Int → Int → Prop} {R1 : Int → Int → Int → List (K.ty k45) → Prop} {again' : List (K.ty k45) → Int → Int → Int → Int → Int → List (K.ty k45) → Int → Int → Int → Int → Prop} {R0' : Int → Int → Prop} {R1' : Int → Int → Int → List (K.ty k45) → Prop} (ha : ∀ l22 x23 x24 xh0_0 xh0_1 xh0_2 lh0_3 xh1_0 xh1_1 xh1_2 xh1_3, again l22 x23 x24 xh0_0 xh0_1 xh0_2 lh0_3 xh1_0 xh1_1 xh1_2 xh1_3 → again' l22 x23 x24 xh0_0 xh0_1 xh0_2 lh0_3 xh1_0 xh1_1 xh1_2 xh1_3) (hr0 : ∀ x2 x3, R0 x2 x3 → R0' x2 x3) (hr1 : ∀ xh0_0 xh0_1 xh0_2 lh0_3, R1 xh0_0 xh0_1 xh0_2 lh0_3 → R1' xh0_0 xh0_1 xh0_2 lh0_3) (l22 : List (K.ty k45)) (x23 : Int) (x24 : Int) (xh0_0 : Int) (xh0_1 : Int) (xh0_2 : Int) (lh0_3 : List (K.ty k45)) (xh1_0 : Int) (xh1_1 : Int) (xh1_2 : Int) (xh1_3 : Int) :
    t23_1 again R0 R1 l22 x23 x24 xh0_0 xh0_1 xh0_2 lh0_3 xh1_0 xh1_1 xh1_2 xh1_3 → t23_1 again' R0' R1' l22 x23 x24 xh0_0 xh0_1 xh0_2 lh0_3 xh1_0 xh1_1 xh1_2 xh1_3 :=
  brM (andM (id) (andM (andM (id) (andM (id) (id))) (andM (id) (brM (hr0 _ _) (ha _ _ _ _ _ _ _ _ _ _ _))))) (hr1 _ _ _ _)
theorem t23_1_eq (n : Nat) (Q : Ex → St → Prop) (l22 : List (K.ty k45)) (x23 : Int) (x24 : Int) (xh0_0 : Int) (xh0_1 : Int) (xh0_2 : Int) (lh0_3 : List (K.ty k45)) (xh1_0 : Int) (xh1_1 : Int) (xh1_2 : Int) (xh1_3 : Int) :
    t23_1 (fun l22 x23 x24 xh0_0 xh0_1 xh0_2 lh0_3 xh1_0 xh1_1 xh1_2 xh1_3 => loopP (awp tt E23 A23 L23_1 1) ([(1 : Nat), (4 : Nat), (22 : Nat), (23 : Nat), (24 : Nat)], [(1 : Nat)], [(2 : Nat), (3 : Nat)]) n (S23_1 l22 x23 x24 xh0_0 xh0_1 xh0_2 lh0_3 xh1_0 xh1_1 xh1_2 xh1_3) Q) (fun x2 x3 => Q (Ex.ret) (X23_1_0 x2 x3)) (fun xh0_0 xh0_1 xh0_2 lh0_3 => Q (Ex.exit (nat_lit 1)) (X23_1_1 xh0_0 xh0_1 xh0_2 lh0_3)) l22 x23 x24 xh0_0 xh0_1 xh0_2 lh0_3 xh1_0 xh1_1 xh1_2 xh1_3 = (loopP (awp tt E23 A23 L23_1 1) ([(1 : Nat), (4 : Nat), (22 : Nat), (23 : Nat), (24 : Nat)], [(1 : Nat)], [(2 : Nat), (3 : Nat)]) (n + 1) (S23_1 l22 x23 x24 xh0_0 xh0_1 xh0_2 lh0_3 xh1_0 xh1_1 xh1_2 xh1_3) Q) := by kernel_rfl
def G23_1 (R0 : Int → Int → Prop) (R1 : Int → Int → Int → List (K.ty k45) → Prop) : Nat → List (K.ty k45) → Int → Int → Int → Int → Int → List (K.ty k45) → Int → Int → Int → Int → Prop
  | 0, _, _, _, _, _, _, _, _, _, _, _ => False
  | n + 1, l22, x23, x24, xh0_0, xh0_1, xh0_2, lh0_3, xh1_0, xh1_1, xh1_2, xh1_3 => t23_1 (G23_1 R0 R1 n) R0 R1 l22 x23 x24 xh0_0 xh0_1 xh0_2 lh0_3 xh1_0 xh1_1 xh1_2 xh1_3
theorem T23_1 {R0 : Int → Int → Prop} {R1 : Int → Int → Int → List (K.ty k45) → Prop} (Q : Ex → St → Prop) (hr0 : ∀ x2 x3, R0 x2 x3 → Of (Q (Ex.ret) (X23_1_0 x2 x3))) (hr1 : ∀ xh0_0 xh0_1 xh0_2 lh0_3, R1 xh0_0 xh0_1 xh0_2 lh0_3 → Of (Q (Ex.exit (nat_lit 1)) (X23_1_1 xh0_0 xh0_1 xh0_2 lh0_3))) : ∀ (n : Nat) (l22 : List (K.ty k45)) (x23 : Int) (x24 : Int) (xh0_0 : Int) (xh0_1 : Int) (xh0_2 : Int) (lh0_3 : List (K.ty k45)) (xh1_0 : Int) (xh1_1 : Int) (xh1_2 : Int) (xh1_3 : Int), G23_1 R0 R1 n l22 x23 x24 xh0_0 xh0_1 xh0_2 lh0_3 xh1_0 xh1_1 xh1_2 xh1_3 → Of (loopP (awp tt E23 A23 L23_1 1) ([(1 : Nat), (4 : Nat), (22 : Nat), (23 : Nat), (24 : Nat)], [(1 : Nat)], [(2 : Nat), (3 : Nat)]) n (S23_1 l22 x23 x24 xh0_0 xh0_1 xh0_2 lh0_3 xh1_0 xh1_1 xh1_2 xh1_3) Q) := by
  intro n
  induction n with
  | zero => intro l22 x23 x24 xh0_0 xh0_1 xh0_2 lh0_3 xh1_0 xh1_1 xh1_2 xh1_3 h; exact h.elim
  | succ n ih =>
    intro l22 x23 x24 xh0_0 xh0_1 xh0_2 lh0_3 xh1_0 xh1_1 xh1_2 xh1_3 h
    exact kcO (t23_1_eq n Q l22 x23 x24 xh0_0 xh0_1 xh0_2 lh0_3 xh1_0 xh1_1 xh1_2 xh1_3) (t23_1_mono (fun _ _ _ _ _ _ _ _ _ _ _ h => (ih _ _ _ _ _ _ _ _ _ _ _ h).out) (fun _ _ h => (hr0 _ _ h).out) (fun _ _ _ _ h => (hr1 _ _ _ _ h).out) l22 x23 x24 xh0_0 xh0_1 xh0_2 lh0_3 xh1_0 xh1_1 xh1_2 xh1_3 h)
def t23 (Q : List V1 → List Ob → Prop) (lp0 : K.ty k23 → Prop) (p0 : K.ty k23) : Prop :=
  brP (checkSize (sizesOf p0) != (0 : Int)) (Q [V1.one (Lf.int IntKind.i64 (0 : Int)), V1.one (Lf.int IntKind.i64 (3 : Int))] []) (brP (decide ((↑(List.length p0.snd.snd.snd) : Int) > (64 : Int))) (Q [V1.one (Lf.int IntKind.i64 (0 : Int)), V1.one (Lf.int IntKind.i64 (10 : Int))] []) (lp0 p0))
theorem t23_mono {Q : List V1 → List Ob → Prop} {Q' : List V1 → List Ob → Prop} {lp0 : K.ty k23 → Prop} {lp0' : K.ty k23 → Prop} (hq : ∀ r h, Q r h → Q' r h) (hlp0 : ∀ p0, lp0 p0 → lp0' p0) (p0 : K.ty k23) :
    t23 Q lp0 p0 → t23 Q' lp0' p0 :=
  brM (hq _ _) (brM (hq _ _) (hlp0 _))
theorem t23_eq (Q : List V1 → List Ob → Prop) (p0 : K.ty k23) :
    t23 Q (fun p0 => ∃ m, loopP (awp tt E23 A23 L23_1 1) ([(1 : Nat), (4 : Nat), (22 : Nat), (23 : Nat), (24 : Nat)], [(1 : Nat)], [(2 : Nat), (3 : Nat)]) m (S23_1 (p0.snd.snd.snd) ((↑(List.length p0.snd.snd.snd) : Int)) ((0 : Int)) (p0.fst) (p0.snd.fst) (p0.snd.snd.fst) (p0.snd.snd.snd) ((sizesOf p0).fst) ((sizesOf p0).snd.fst) ((sizesOf p0).snd.snd.fst) ((sizesOf p0).snd.snd.snd)) (blkC (1 : Nat) (seqC (awp tt E23 A23 (Code.b (Code.b (Code.b (Code.b (Func.code Try.f23))))) (0 : Nat)) (topC tt Try.f23 0 Q)))) p0 = (afun tt E23 A23 Try.f23 (I23 p0) [] Q) := by kernel_rfl
def t23c0x1 (Q : List V1 → List Ob → Prop) (lp0 : K.ty k23 → Int → Int → Int → List (K.ty k45) → Prop) (p0 : K.ty k23) (xh0_0e1 : Int) (xh0_1e1 : Int) (xh0_2e1 : Int) (lh0_3e1 : List (K.ty k45)) : Prop :=
  lp0 p0 xh0_0e1 xh0_1e1 xh0_2e1 lh0_3e1
theorem t23c0x1_mono {Q : List V1 → List Ob → Prop} {Q' : List V1 → List Ob → Prop} {lp0 : K.ty k23 → Int → Int → Int → List (K.ty k45) → Prop} {lp0' : K.ty k23 → Int → Int → Int → List (K.ty k45) → Prop} (hq : ∀ r h, Q r h → Q' r h) (hlp0 : ∀ p0 xh0_0e1 xh0_1e1 xh0_2e1 lh0_3e1, lp0 p0 xh0_0e1 xh0_1e1 xh0_2e1 lh0_3e1 → lp0' p0 xh0_0e1 xh0_1e1 xh0_2e1 lh0_3e1) (p0 : K.ty k23) (xh0_0e1 : Int) (xh0_1e1 : Int) (xh0_2e1 : Int) (lh0_3e1 : List (K.ty k45)) :
    t23c0x1 Q lp0 p0 xh0_0e1 xh0_1e1 xh0_2e1 lh0_3e1 → t23c0x1 Q' lp0' p0 xh0_0e1 xh0_1e1 xh0_2e1 lh0_3e1 :=
  hlp0 _ _ _ _ _
theorem t23c0x1_eq (Q : List V1 → List Ob → Prop) (p0 : K.ty k23) (xh0_0e1 : Int) (xh0_1e1 : Int) (xh0_2e1 : Int) (lh0_3e1 : List (K.ty k45)) :
    t23c0x1 Q (fun p0 xh0_0e1 xh0_1e1 xh0_2e1 lh0_3e1 => ∃ m, loopP (awp tt E23 A23 L23_3 3) ([(1 : Nat), (42 : Nat), (43 : Nat), (44 : Nat)], [(1 : Nat)], [(2 : Nat), (3 : Nat)]) m (S23_3 (lh0_3e1) ((↑(List.length lh0_3e1) : Int)) ((0 : Int)) (xh0_0e1) (xh0_1e1) (xh0_2e1) (lh0_3e1)) (blkC (3 : Nat) (seqC (awp tt E23 A23 (Code.b (Code.b (Code.b (Code.b (Code.b (Func.code Try.f23)))))) (0 : Nat)) (topC tt Try.f23 0 Q)))) p0 xh0_0e1 xh0_1e1 xh0_2e1 lh0_3e1 = ((blkC (1 : Nat) (seqC (awp tt E23 A23 (Code.b (Code.b (Code.b (Code.b (Func.code Try.f23))))) (0 : Nat)) (topC tt Try.f23 0 Q))) (Ex.exit (nat_lit 1)) (X23_1_1 xh0_0e1 xh0_1e1 xh0_2e1 lh0_3e1)) := by kernel_rfl
def t23c0x1c0x1 (Q : List V1 → List Ob → Prop) (p0 : K.ty k23) (xh0_0e1 : Int) (xh0_1e1 : Int) (xh0_2e1 : Int) (lh0_3e1 : List (K.ty k45)) (xh0_0e5 : Int) (xh0_1e5 : Int) (xh0_2e5 : Int) (lh0_3e5 : List (K.ty k45)) : Prop :=
  Q [V1.one (Lf.int IntKind.i64 (↑(List.length lh0_3e5) : Int)), V1.one (Lf.int IntKind.i64 (0 : Int))] []
theorem t23c0x1c0x1_mono {Q : List V1 → List Ob → Prop} {Q' : List V1 → List Ob → Prop} (hq : ∀ r h, Q r h → Q' r h) (p0 : K.ty k23) (xh0_0e1 : Int) (xh0_1e1 : Int) (xh0_2e1 : Int) (lh0_3e1 : List (K.ty k45)) (xh0_0e5 : Int) (xh0_1e5 : Int) (xh0_2e5 : Int) (lh0_3e5 : List (K.ty k45)) :
    t23c0x1c0x1 Q p0 xh0_0e1 xh0_1e1 xh0_2e1 lh0_3e1 xh0_0e5 xh0_1e5 xh0_2e5 lh0_3e5 → t23c0x1c0x1 Q' p0 xh0_0e1 xh0_1e1 xh0_2e1 lh0_3e1 xh0_0e5 xh0_1e5 xh0_2e5 lh0_3e5 :=
  hq _ _
theorem t23c0x1c0x1_eq (Q : List V1 → List Ob → Prop) (p0 : K.ty k23) (xh0_0e1 : Int) (xh0_1e1 : Int) (xh0_2e1 : Int) (lh0_3e1 : List (K.ty k45)) (xh0_0e5 : Int) (xh0_1e5 : Int) (xh0_2e5 : Int) (lh0_3e5 : List (K.ty k45)) :
    t23c0x1c0x1 Q p0 xh0_0e1 xh0_1e1 xh0_2e1 lh0_3e1 xh0_0e5 xh0_1e5 xh0_2e5 lh0_3e5 = ((blkC (3 : Nat) (seqC (awp tt E23 A23 (Code.b (Code.b (Code.b (Code.b (Code.b (Func.code Try.f23)))))) (0 : Nat)) (topC tt Try.f23 0 Q))) (Ex.exit (nat_lit 3)) (X23_3_1 xh0_0e5 xh0_1e5 xh0_2e5 lh0_3e5)) := by kernel_rfl
def t23c0x1c0x0 (Q : List V1 → List Ob → Prop) (p0 : K.ty k23) (xh0_0e1 : Int) (xh0_1e1 : Int) (xh0_2e1 : Int) (lh0_3e1 : List (K.ty k45)) (x2e5 : Int) (x3e5 : Int) : Prop :=
  Q [V1.one (Lf.int IntKind.i64 x2e5), V1.one (Lf.int IntKind.i64 x3e5)] []
theorem t23c0x1c0x0_mono {Q : List V1 → List Ob → Prop} {Q' : List V1 → List Ob → Prop} (hq : ∀ r h, Q r h → Q' r h) (p0 : K.ty k23) (xh0_0e1 : Int) (xh0_1e1 : Int) (xh0_2e1 : Int) (lh0_3e1 : List (K.ty k45)) (x2e5 : Int) (x3e5 : Int) :
    t23c0x1c0x0 Q p0 xh0_0e1 xh0_1e1 xh0_2e1 lh0_3e1 x2e5 x3e5 → t23c0x1c0x0 Q' p0 xh0_0e1 xh0_1e1 xh0_2e1 lh0_3e1 x2e5 x3e5 :=
  hq _ _
theorem t23c0x1c0x0_eq (Q : List V1 → List Ob → Prop) (p0 : K.ty k23) (xh0_0e1 : Int) (xh0_1e1 : Int) (xh0_2e1 : Int) (lh0_3e1 : List (K.ty k45)) (x2e5 : Int) (x3e5 : Int) :
    t23c0x1c0x0 Q p0 xh0_0e1 xh0_1e1 xh0_2e1 lh0_3e1 x2e5 x3e5 = ((blkC (3 : Nat) (seqC (awp tt E23 A23 (Code.b (Code.b (Code.b (Code.b (Code.b (Func.code Try.f23)))))) (0 : Nat)) (topC tt Try.f23 0 Q))) (Ex.ret) (X23_3_0 x2e5 x3e5)) := by kernel_rfl
def t23c0x0 (Q : List V1 → List Ob → Prop) (p0 : K.ty k23) (x2e1 : Int) (x3e1 : Int) : Prop :=
  Q [V1.one (Lf.int IntKind.i64 x2e1), V1.one (Lf.int IntKind.i64 x3e1)] []
theorem t23c0x0_mono {Q : List V1 → List Ob → Prop} {Q' : List V1 → List Ob → Prop} (hq : ∀ r h, Q r h → Q' r h) (p0 : K.ty k23) (x2e1 : Int) (x3e1 : Int) :
    t23c0x0 Q p0 x2e1 x3e1 → t23c0x0 Q' p0 x2e1 x3e1 :=
  hq _ _
theorem t23c0x0_eq (Q : List V1 → List Ob → Prop) (p0 : K.ty k23) (x2e1 : Int) (x3e1 : Int) :
    t23c0x0 Q p0 x2e1 x3e1 = ((blkC (1 : Nat) (seqC (awp tt E23 A23 (Code.b (Code.b (Code.b (Code.b (Func.code Try.f23))))) (0 : Nat)) (topC tt Try.f23 0 Q))) (Ex.ret) (X23_1_0 x2e1 x3e1)) := by kernel_rfl
def H23 (Q : List V1 → List Ob → Prop) (p0 : K.ty k23) : Prop := t23 Q (fun p0 => ∃ m, G23_1 (fun x2e1 x3e1 => t23c0x0 Q p0 x2e1 x3e1) (fun xh0_0e1 xh0_1e1 xh0_2e1 lh0_3e1 => t23c0x1 Q (fun p0 xh0_0e1 xh0_1e1 xh0_2e1 lh0_3e1 => ∃ m, G23_3 (fun x2e5 x3e5 => t23c0x1c0x0 Q p0 xh0_0e1 xh0_1e1 xh0_2e1 lh0_3e1 x2e5 x3e5) (fun xh0_0e5 xh0_1e5 xh0_2e5 lh0_3e5 => t23c0x1c0x1 Q p0 xh0_0e1 xh0_1e1 xh0_2e1 lh0_3e1 xh0_0e5 xh0_1e5 xh0_2e5 lh0_3e5) m (lh0_3e1) ((↑(List.length lh0_3e1) : Int)) ((0 : Int)) (xh0_0e1) (xh0_1e1) (xh0_2e1) (lh0_3e1)) p0 xh0_0e1 xh0_1e1 xh0_2e1 lh0_3e1) m (p0.snd.snd.snd) ((↑(List.length p0.snd.snd.snd) : Int)) ((0 : Int)) (p0.fst) (p0.snd.fst) (p0.snd.snd.fst) (p0.snd.snd.snd) ((sizesOf p0).fst) ((sizesOf p0).snd.fst) ((sizesOf p0).snd.snd.fst) ((sizesOf p0).snd.snd.snd)) p0
theorem ok23 (Q : List V1 → List Ob → Prop) (p0 : K.ty k23) (h : H23 Q p0) : Of (afun tt E23 A23 Try.f23 (I23 p0) [] Q) :=
  kcO (t23_eq Q p0) (t23_mono (fun _ _ h => h) (fun p0 ⟨m, h⟩ => ⟨m, (T23_1 _ (fun x2e1 x3e1 h => kcO (t23c0x0_eq _ _ _ _) (t23c0x0_mono (fun _ _ h => h) _ _ _ h)) (fun xh0_0e1 xh0_1e1 xh0_2e1 lh0_3e1 h => kcO (t23c0x1_eq _ _ _ _ _ _) (t23c0x1_mono (fun _ _ h => h) (fun p0 xh0_0e1 xh0_1e1 xh0_2e1 lh0_3e1 ⟨m, h⟩ => ⟨m, (T23_3 _ (fun x2e5 x3e5 h => kcO (t23c0x1c0x0_eq _ _ _ _ _ _ _ _) (t23c0x1c0x0_mono (fun _ _ h => h) _ _ _ _ _ _ _ h)) (fun xh0_0e5 xh0_1e5 xh0_2e5 lh0_3e5 h => kcO (t23c0x1c0x1_eq _ _ _ _ _ _ _ _ _ _) (t23c0x1c0x1_mono (fun _ _ h => h) _ _ _ _ _ _ _ _ _ h)) m _ _ _ _ _ _ _ h).out⟩) _ _ _ _ _ h)) m _ _ _ _ _ _ _ _ _ _ _ h).out⟩) p0 h)
theorem env23 : EnvOk Try.prog E23 := .cons spec34 (by kernel_rfl) <| .cons spec35 (by kernel_rfl) <| .cons spec36 (by kernel_rfl) <| .cons spec37 (by kernel_rfl) <| .cons spec38 (by kernel_rfl) <| .nil
theorem loop23a (s : k59.ty) (rs : List Rung) (a b c : Int) (R0 : Int → Int → Prop) (R1 : Int → Int → Int → List Rung → Prop) (hl : rs.length ≤ 1000000) :
    ∀ n k (i : Nat), k < n → i + k = rs.length → (∀ x, chk1 s rs i k = some x → R0 x.1 x.2) → (chk1 s rs i k = none → R1 a b c rs) →
      G23_1 R0 R1 n rs rs.length i a b c rs s.1 s.2.1 s.2.2.1 s.2.2.2 := by
  intro n
  induction n with
  | zero => intro k i h; omega
  | succ n ih =>
    intro k i hk hi h0 h1
    refine brP_intro (fun d => ?_) (fun d => ?_)
    · have d : i < rs.length := by simpa using d
      cases k with
      | zero => omega
      | succ k =>
        simp only [chk1] at h0 h1
        simp only [Int.toNat_natCast, Int.toNat_zero, List.drop_zero]
        refine ⟨⟨by omega, by omega⟩, ⟨by omega, by omega, by omega⟩, by rw [List.length_take]; omega, ?_⟩
        refine brP_intro (fun e => ?_) (fun e => ?_)
        · have e : (rungE s (rs.take i) (getE k45 rs i) != 0) = true := e
          rw [e] at h0
          exact h0 _ rfl
        · have e : (rungE s (rs.take i) (getE k45 rs i) != 0) = false := e
          rw [e] at h0 h1
          rw [wrap_in (by omega) (by omega)]
          exact ih k (i + 1) (by omega) (by omega) h0 h1
    · have d : ¬ i < rs.length := by simpa using d
      obtain rfl : k = 0 := by omega
      exact h1 rfl
theorem loop23b (rs : List Rung) (a b c : Int) (R0 : Int → Int → Prop) (R1 : Int → Int → Int → List Rung → Prop) (hl : rs.length ≤ 1000000) :
    ∀ n k (i : Nat), k < n → i + k = rs.length → (∀ x, chk2 rs i k = some x → R0 x.1 x.2) → (chk2 rs i k = none → R1 a b c rs) →
      G23_3 R0 R1 n rs rs.length i a b c rs := by
  intro n
  induction n with
  | zero => intro k i h; omega
  | succ n ih =>
    intro k i hk hi h0 h1
    refine brP_intro (fun d => ?_) (fun d => ?_)
    · have d : i < rs.length := by simpa using d
      cases k with
      | zero => omega
      | succ k =>
        simp only [chk2] at h0 h1
        have hw : IntKind.i64.wrap ((i : Int) + 1) = ((i + 1 : Nat) : Int) := by rw [wrap_in (by omega) (by omega)]; omega
        have hb : (ByteArray.toList (getE k45 rs i).snd.snd.snd != ByteArray.toList (ByteArray.mk #[])) = !decide (Rung.jump (getE k45 rs i) = str0) := by rw [bne, strEq]
        have e2 : List.take rs.length rs = rs := List.take_length
        simp only [hw, Int.toNat_natCast, e2]
        refine ⟨⟨by omega, by omega⟩, ?_⟩
        refine brP_intro (fun e => ?_) (fun e => ?_)
        · rw [hb] at e
          rw [e] at h0 h1
          refine ⟨⟨by omega, by omega, by omega⟩, by rw [List.length_drop]; omega, ?_⟩
          refine brP_intro (fun f => ?_) (fun f => ?_)
          · have f : (!found rs i) = true := f
            rw [f] at h0
            exact h0 _ rfl
          · have f : (!found rs i) = false := f
            rw [f] at h0 h1
            exact ih k (i + 1) (by omega) (by omega) h0 h1
        · rw [hb] at e
          rw [e] at h0 h1
          exact ih k (i + 1) (by omega) (by omega) h0 h1
    · have d : ¬ i < rs.length := by simpa using d
      obtain rfl : k = 0 := by omega
      exact h1 rfl
theorem spec23 : SpecOk Try.prog 23 sp23 := S1.ok tt_ok mixed env23 Try.func23 fun (l : Lad) Q h => ok23 Q l <| by
  unfold F23 checkL at h
  refine brP_intro (fun c => by rw [c] at h; exact h) (fun c => ?_)
  rw [c] at h
  simp only [cond_false] at h
  refine brP_intro (fun d => ?_) (fun d => ?_)
  · have d : decide ((Lad.rungs l).length > 64) = true := by
      have d2 : ((Lad.rungs l).length : Int) > 64 := by simpa using d
      simp; omega
    rw [d] at h; exact h
  have d' : decide ((Lad.rungs l).length > 64) = false := by
    have d2 : ¬ ((Lad.rungs l).length : Int) > 64 := by simpa using d
    simp; omega
  rw [d'] at h
  simp only [cond_false] at h
  have hlen : (Lad.rungs l).length ≤ 64 := by simpa using d'
  refine ⟨(Lad.rungs l).length + 1, loop23a (sizesOf l) (Lad.rungs l) l.1 l.2.1 l.2.2.1 _ _ (by omega) _ (Lad.rungs l).length 0 (by omega) (by omega) (fun x hx => ?_) (fun hx => ?_)⟩
  · rw [hx] at h; exact h
  · rw [hx] at h
    simp only at h
    refine ⟨(Lad.rungs l).length + 1, loop23b (Lad.rungs l) l.1 l.2.1 l.2.2.1 _ _ (by omega) _ (Lad.rungs l).length 0 (by omega) (by omega) (fun x hx => ?_) (fun hx => ?_)⟩
    · rw [hx] at h; exact h
    · rw [hx] at h; exact h
end Go.AM
namespace Go.AM
open Go.Proofs
-- f42 "busbar/pathmodel.behind" ['24', '3'] -> ['3']
def A42 : Ann := []
def E42 : Env := [(56, sp56), (57, sp57)]
def I42 (p0 : (k23 : K).ty) (p1 : ((.int .i64) : K).ty) : List V1 := [nfK k23 p0, nfK (.int .i64) p1]
def t42 (Q : List V1 → List Ob → Prop) (p0 : K.ty k23) (p1 : K.ty (K.int IntKind.i64)) : Prop :=
  ((0 : Int) ≤ IntKind.wrap IntKind.i64 (p1 + (1 : Int)) ∧ IntKind.wrap IntKind.i64 (p1 + (1 : Int)) ≤ (↑(List.length p0.snd.snd.snd) : Int) ∧ (↑(List.length p0.snd.snd.snd) : Int) ≤ (↑(List.length p0.snd.snd.snd) : Int)) ∧ bound p1 (List.length (Lad.rungs p0)) ∧ List.length (List.drop (Int.toNat (IntKind.wrap IntKind.i64 (p1 + (1 : Int)))) (List.take (Int.toNat (↑(List.length p0.snd.snd.snd) : Int)) p0.snd.snd.snd)) ≤ (4611686018427387904 : Nat) ∧ Q [V1.one (Lf.int IntKind.i64 (IntKind.wrap IntKind.i64 (IntKind.wrap IntKind.i64 (p1 + (1 : Int)) + idxP (fun (r : Rung) => decide (Rung.label r = jumpAt p0 p1)) (List.drop (Int.toNat (IntKind.wrap IntKind.i64 (p1 + (1 : Int)))) (List.take (Int.toNat (↑(List.length p0.snd.snd.snd) : Int)) p0.snd.snd.snd)) (0 : Nat))))] []
theorem t42_mono {Q : List V1 → List Ob → Prop} {Q' : List V1 → List Ob → Prop} (hq : ∀ r h, Q r h → Q' r h) (p0 : K.ty k23) (p1 : K.ty (K.int IntKind.i64)) :
    t42 Q p0 p1 → t42 Q' p0 p1 :=
  andM (andM (id) (andM (id) (id))) (andM (id) (andM (id) (hq _ _)))
theorem t42_eq (Q : List V1 → List Ob → Prop) (p0 : K.ty k23) (p1 : K.ty (K.int IntKind.i64)) :
    t42 Q p0 p1 = (afun tt E42 A42 Try.f42 (I42 p0 p1) [] Q) := by kernel_rfl
def H42 (Q : List V1 → List Ob → Prop) (p0 : K.ty k23) (p1 : K.ty (K.int IntKind.i64)) : Prop := t42 Q p0 p1
theorem ok42 (Q : List V1 → List Ob → Prop) (p0 : K.ty k23) (p1 : K.ty (K.int IntKind.i64)) (h : H42 Q p0 p1) : Of (afun tt E42 A42 Try.f42 (I42 p0 p1) [] Q) :=
  kcO (t42_eq Q p0 p1) (t42_mono (fun _ _ h => h) p0 p1 h)
theorem env42 : EnvOk Try.prog E42 := .cons spec56 (by kernel_rfl) <| .cons spec57 (by kernel_rfl) <| .nil
theorem idxP_bounds (p : Rung → Bool) : ∀ (l : List Rung) (i : Nat), idxP p l i = -1 ∨ ((i : Int) ≤ idxP p l i ∧ idxP p l i < i + l.length)
  | [], _ => .inl rfl
  | r :: l, i => by
    simp only [idxP]
    cases p r with
    | true => right; simp only [cond_true, List.length_cons]; omega
    | false =>
      simp only [cond_false, List.length_cons]
      rcases idxP_bounds p l (i + 1) with h | h
      · exact .inl h
      · right; omega
theorem spec42 : SpecOk Try.prog 42 sp42 := S2.ok tt_ok mixed env42 Try.func42 fun (l : Lad) (i : Int) Q h => ok42 Q l i <| by
  obtain ⟨hb, hl, hq⟩ := h
  have hb1 := hb.1
  have hb2 := hb.2
  have e1 : IntKind.i64.wrap (i + 1) = i + 1 := wrap_in (by omega) (by omega)
  have e2 : List.take l.snd.snd.snd.length l.snd.snd.snd = l.snd.snd.snd := List.take_length
  have hi := idxP_bounds (fun r => decide (Rung.label r = jumpAt l i)) ((Lad.rungs l).drop (i + 1).toNat) 0
  unfold H42 t42
  simp only [e1, Int.toNat_natCast, e2]
  refine ⟨⟨by omega, by show i + 1 ≤ ((Lad.rungs l).length : Int); omega, by omega⟩, hb, by rw [List.length_drop]; show (Lad.rungs l).length - _ ≤ _; omega, ?_⟩
  have hdl : ((Lad.rungs l).drop (i + 1).toNat).length ≤ 1000000 := by rw [List.length_drop]; omega
  rw [wrap_in]
  · exact hq
  · show -9223372036854775808 ≤ i + 1 + idxP (fun r => decide (Rung.label r = jumpAt l i)) ((Lad.rungs l).drop (i + 1).toNat) 0
    omega
  · show i + 1 + idxP (fun r => decide (Rung.label r = jumpAt l i)) ((Lad.rungs l).drop (i + 1).toNat) 0 ≤ _
    omega
end Go.AM
namespace Go.AM
open Go.Proofs
-- f43 "busbar/rungeval.Contacts" ['46', '25', '27', '3'] -> ['25', '27', '32']
def A43 : Ann := [(0, [1, 3, 6, 9, 11, 12, 25, 26, 27], [9, 11, 12], [8, 9, 10])]
def E43 : Env := [(25, sp25), (51, sp51), (58, sp58), (59, sp59)]
def I43 (p0 : (k45 : K).ty) (p1 : ((.slice 4 .bool) : K).ty) (p2 : (k26 : K).ty) (p3 : ((.int .i64) : K).ty) : List V1 := [nfK k45 p0, nfK (.slice 4 .bool) p1, nfK k26 p2, nfK (.int .i64) p3]
noncomputable def L43_0 : Code := Code.a (Code.a (Code.b (Code.a (Code.b (Code.b (Code.b (Func.code Try.f43)))))))
def S43_0 (l1 : List (K.ty K.bool)) (x3 : Int) (l25 : List (K.ty k74)) (x26 : Int) (x27 : Int) (lh0_0 : List (K.ty K.bool)) (lh0_1 : List (K.ty K.bool)) (lh0_2 : List (K.ty K.bool)) (w3 : List (K.ty ((4 : TypeId), K.bool).snd)) (w4 : List (K.ty K.bool)) (w5 : List (K.ty K.bool)) (w6 : List (K.ty K.bool)) : St := sp (88 : Nat) [((1 : Nat), V.v (V1.one (Lf.sl (4 : TypeId) K.bool l1))), ((3 : Nat), V.v (V1.one (Lf.int IntKind.i64 x3))), ((6 : Nat), V.v (V1.one (Lf.ptr (nat_lit 0) (nat_lit 0)))), ((9 : Nat), V.v (V1.one (Lf.ptr (nat_lit 1) (nat_lit 0)))), ((11 : Nat), V.v (V1.one (Lf.ptr (nat_lit 2) (nat_lit 0)))), ((12 : Nat), V.v (V1.one (Lf.own (nat_lit 3)))), ((25 : Nat), V.v (V1.one (Lf.sl (75 : TypeId) k74 l25))), ((26 : Nat), V.v (V1.one (Lf.int IntKind.i64 x26))), ((27 : Nat), V.v (V1.one (Lf.int IntKind.i64 x27)))] [Ob.box (27 : Nat) [Lf.sl (4 : TypeId) K.bool lh0_0, Lf.sl (4 : TypeId) K.bool lh0_1, Lf.sl (4 : TypeId) K.bool lh0_2], Ob.box (27 : Nat) [Lf.nils, Lf.nils, Lf.nils], Ob.box (27 : Nat) [Lf.own (nat_lit 4), Lf.own (nat_lit 5), Lf.own (nat_lit 6)], Ob.row (4 : TypeId) K.bool w3, Ob.row (4 : TypeId) K.bool w4, Ob.row (4 : TypeId) K.bool w5, Ob.row (4 : TypeId) K.bool w6]
def X43_0_0 (x10 : Int) (w0 : List (K.ty K.bool)) : St := sp (88 : Nat) [((8 : Nat), V.v (V1.one (Lf.own (nat_lit 0)))), ((9 : Nat), V.v (V1.one (Lf.ptr (nat_lit 1) (nat_lit 0)))), ((10 : Nat), V.v (V1.one (Lf.int IntKind.i64 x10)))] [Ob.row (4 : TypeId) K.bool w0, Ob.box (27 : Nat) [Lf.nils, Lf.nils, Lf.nils]]
def X43_0_1 (w2 : List (K.ty K.bool)) (w3 : List (K.ty K.bool)) (w4 : List (K.ty K.bool)) (w5 : List (K.ty K.bool)) : St := sp (88 : Nat) [((9 : Nat), V.v (V1.one (Lf.ptr (nat_lit 0) (nat_lit 0)))), ((11 : Nat), V.v (V1.one (Lf.ptr (nat_lit 1) (nat_lit 0)))), ((12 : Nat), V.v (V1.one (Lf.own (nat_lit 2))))] [Ob.box (27 : Nat) [Lf.nils, Lf.nils, Lf.nils], Ob.box (27 : Nat) [Lf.own (nat_lit 3), Lf.own (nat_lit 4), Lf.own (nat_lit 5)], Ob.row (4 : TypeId) K.bool w2, Ob.row (4 : TypeId) K.bool w3, Ob.row (4 : TypeId) K.bool w4, Ob.row (4 : TypeId) K.bool w5]
def t43_0 (again : List (K.ty K.bool) → Int → List (K.ty k74) → Int → Int → List (K.ty K.bool) → List (K.ty K.bool) → List (K.ty K.bool) → List (K.ty ((4 : TypeId), K.bool).snd) → List (K.ty K.bool) → List (K.ty K.bool) → List (K.ty K.bool) → Prop) (R0 : Int → List (K.ty K.bool) → Prop) (R1 : List (K.ty K.bool) → List (K.ty K.bool) → List (K.ty K.bool) → List (K.ty K.bool) → Prop) (l1 : List (K.ty K.bool)) (x3 : Int) (l25 : List (K.ty k74)) (x26 : Int) (x27 : Int) (lh0_0 : List (K.ty K.bool)) (lh0_1 : List (K.ty K.bool)) (lh0_2 : List (K.ty K.bool)) (w3 : List (K.ty ((4 : TypeId), K.bool).snd)) (w4 : List (K.ty K.bool)) (w5 : List (K.ty K.bool)) (w6 : List (K.ty K.bool)) : Prop :=
  brP (decide (x27 < x26)) (bound x27 (List.length l25) ∧ brP (decide ((getE k74 l25 x27).fst < (0 : Int))) (R0 (8 : Int) []) (brP (decide ((getE k74 l25 x27).fst ≥ (4 : Int))) (R0 (8 : Int) []) (brP ((readS l1 (lh0_0, lh0_1, lh0_2) (getE k74 l25 x27).snd.fst).snd != (0 : Int)) (R0 (readS l1 (lh0_0, lh0_1, lh0_2) (getE k74 l25 x27).snd.fst).snd []) (brP (isEdge (getE k74 l25 x27)) (brP (decide (x3 < (0 : Int))) (R0 (3 : Int) []) (brP (decide (x3 ≥ (↑(List.length w6) : Int))) (R0 (3 : Int) []) (bound x3 (List.length w6) ∧ bound x3 (List.length w6) ∧ bound (getE k74 l25 x27).fst (4 : Nat) ∧ bound x27 (List.length w3) ∧ again l1 (IntKind.wrap IntKind.i64 (x3 + (1 : Int))) l25 x26 (IntKind.wrap IntKind.i64 (x27 + (1 : Int))) lh0_0 lh0_1 lh0_2 (List.set w3 (Int.toNat x27) (conducting (getE k74 l25 x27).fst (readS l1 (lh0_0, lh0_1, lh0_2) (getE k74 l25 x27).snd.fst).fst (getE K.bool w6 x3))) w4 w5 (List.set w6 (Int.toNat x3) (readS l1 (lh0_0, lh0_1, lh0_2) (getE k74 l25 x27).snd.fst).fst)))) (bound (getE k74 l25 x27).fst (4 : Nat) ∧ bound x27 (List.length w3) ∧ again l1 x3 l25 x26 (IntKind.wrap IntKind.i64 (x27 + (1 : Int))) lh0_0 lh0_1 lh0_2 (List.set w3 (Int.toNat x27) (conducting (getE k74 l25 x27).fst (readS l1 (lh0_0, lh0_1, lh0_2) (getE k74 l25 x27).snd.fst).fst false)) w4 w5 w6))))) (R1 w3 w4 w5 w6)
theorem t43_0_mono {again : List (K.ty K.bool) → Int → List (K.ty k74) → Int → Int → List (K.ty K.bool) → List (K.ty K.bool) → List (K.ty K.bool) → List (K.ty ((4 : TypeId), K.bool).snd) → List (K.ty K.bool) → List (K.ty K.bool) → List (K.ty K.bool) → Prop} {R0 : Int → List (K.ty K.bool) → Prop} {R1 : List (K.ty K.bool) → List (K.ty K.bool) → List (K.ty K.bool) → List (K.ty K.bool) → Prop} {again' : List (K.ty K.bool) → Int → List (K.ty k74) → Int → Int → List (K.ty K.bool) → List (K.ty K.bool) → List (K.ty K.bool) → List (K.ty ((4 : TypeId), K.bool).snd) → List (K.ty K.bool) → List (K.ty K.bool) → List (K.ty K.bool) → Prop} {R0' : Int → List (K.ty K.bool) → Prop} {R1' : List (K.ty K.bool) → List (K.ty K.bool) → List (K.ty K.bool) → List (K.ty K.bool) → Prop} (ha : ∀ l1 x3 l25 x26 x27 lh0_0 lh0_1 lh0_2 w3 w4 w5 w6, again l1 x3 l25 x26 x27 lh0_0 lh0_1 lh0_2 w3 w4 w5 w6 → again' l1 x3 l25 x26 x27 lh0_0 lh0_1 lh0_2 w3 w4 w5 w6) (hr0 : ∀ x10 w0, R0 x10 w0 → R0' x10 w0) (hr1 : ∀ w2 w3 w4 w5, R1 w2 w3 w4 w5 → R1' w2 w3 w4 w5) (l1 : List (K.ty K.bool)) (x3 : Int) (l25 : List (K.ty k74)) (x26 : Int) (x27 : Int) (lh0_0 : List (K.ty K.bool)) (lh0_1 : List (K.ty K.bool)) (lh0_2 : List (K.ty K.bool)) (w3 : List (K.ty ((4 : TypeId), K.bool).snd)) (w4 : List (K.ty K.bool)) (w5 : List (K.ty K.bool)) (w6 : List (K.ty K.bool)) :
    t43_0 again R0 R1 l1 x3 l25 x26 x27 lh0_0 lh0_1 lh0_2 w3 w4 w5 w6 → t43_0 again' R0' R1' l1 x3 l25 x26 x27 lh0_0 lh0_1 lh0_2 w3 w4 w5 w6 :=
  brM (andM (id) (brM (hr0 _ _) (brM (hr0 _ _) (brM (hr0 _ _) (brM (brM (hr0 _ _) (brM (hr0 _ _) (andM (id) (andM (id) (andM (id) (andM (id) (ha _ _ _ _ _ _ _ _ _ _ _ _))))))) (andM (id) (andM (id) (ha _ _ _ _ _ _ _ _ _ _ _ _)))))))) (hr1 _ _ _ _)
theorem t43_0_eq (n : Nat) (Q : Ex → St → Prop) (l1 : List (K.ty K.bool)) (x3 : Int) (l25 : List (K.ty k74)) (x26 : Int) (x27 : Int) (lh0_0 : List (K.ty K.bool)) (lh0_1 : List (K.ty K.bool)) (lh0_2 : List (K.ty K.bool)) (w3 : List (K.ty ((4 : TypeId), K.bool).snd)) (w4 : List (K.ty K.bool)) (w5 : List (K.ty K.bool)) (w6 : List (K.ty K.bool)) :
    t43_0 (fun l1 x3 l25 x26 x27 lh0_0 lh0_1 lh0_2 w3 w4 w5 w6 => loopP (awp tt E43 A43 L43_0 0) ([(1 : Nat), (3 : Nat), (6 : Nat), (9 : Nat), (11 : Nat), (12 : Nat), (25 : Nat), (26 : Nat), (27 : Nat)], [(9 : Nat), (11 : Nat), (12 : Nat)], [(8 : Nat), (9 : Nat), (10 : Nat)]) n (S43_0 l1 x3 l25 x26 x27 lh0_0 lh0_1 lh0_2 w3 w4 w5 w6) Q) (fun x10 w0 => Q (Ex.ret) (X43_0_0 x10 w0)) (fun w2 w3 w4 w5 => Q (Ex.exit (nat_lit 0)) (X43_0_1 w2 w3 w4 w5)) l1 x3 l25 x26 x27 lh0_0 lh0_1 lh0_2 w3 w4 w5 w6 = (loopP (awp tt E43 A43 L43_0 0) ([(1 : Nat), (3 : Nat), (6 : Nat), (9 : Nat), (11 : Nat), (12 : Nat), (25 : Nat), (26 : Nat), (27 : Nat)], [(9 : Nat), (11 : Nat), (12 : Nat)], [(8 : Nat), (9 : Nat), (10 : Nat)]) (n + 1) (S43_0 l1 x3 l25 x26 x27 lh0_0 lh0_1 lh0_2 w3 w4 w5 w6) Q) := by kernel_rfl
def G43_0 (R0 : Int → List (K.ty K.bool) → Prop) (R1 : List (K.ty K.bool) → List (K.ty K.bool) → List (K.ty K.bool) → List (K.ty K.bool) → Prop) : Nat → List (K.ty K.bool) → Int → List (K.ty k74) → Int → Int → List (K.ty K.bool) → List (K.ty K.bool) → List (K.ty K.bool) → List (K.ty ((4 : TypeId), K.bool).snd) → List (K.ty K.bool) → List (K.ty K.bool) → List (K.ty K.bool) → Prop
  | 0, _, _, _, _, _, _, _, _, _, _, _, _ => False
  | n + 1, l1, x3, l25, x26, x27, lh0_0, lh0_1, lh0_2, w3, w4, w5, w6 => t43_0 (G43_0 R0 R1 n) R0 R1 l1 x3 l25 x26 x27 lh0_0 lh0_1 lh0_2 w3 w4 w5 w6
theorem T43_0 {R0 : Int → List (K.ty K.bool) → Prop} {R1 : List (K.ty K.bool) → List (K.ty K.bool) → List (K.ty K.bool) → List (K.ty K.bool) → Prop} (Q : Ex → St → Prop) (hr0 : ∀ x10 w0, R0 x10 w0 → Of (Q (Ex.ret) (X43_0_0 x10 w0))) (hr1 : ∀ w2 w3 w4 w5, R1 w2 w3 w4 w5 → Of (Q (Ex.exit (nat_lit 0)) (X43_0_1 w2 w3 w4 w5))) : ∀ (n : Nat) (l1 : List (K.ty K.bool)) (x3 : Int) (l25 : List (K.ty k74)) (x26 : Int) (x27 : Int) (lh0_0 : List (K.ty K.bool)) (lh0_1 : List (K.ty K.bool)) (lh0_2 : List (K.ty K.bool)) (w3 : List (K.ty ((4 : TypeId), K.bool).snd)) (w4 : List (K.ty K.bool)) (w5 : List (K.ty K.bool)) (w6 : List (K.ty K.bool)), G43_0 R0 R1 n l1 x3 l25 x26 x27 lh0_0 lh0_1 lh0_2 w3 w4 w5 w6 → Of (loopP (awp tt E43 A43 L43_0 0) ([(1 : Nat), (3 : Nat), (6 : Nat), (9 : Nat), (11 : Nat), (12 : Nat), (25 : Nat), (26 : Nat), (27 : Nat)], [(9 : Nat), (11 : Nat), (12 : Nat)], [(8 : Nat), (9 : Nat), (10 : Nat)]) n (S43_0 l1 x3 l25 x26 x27 lh0_0 lh0_1 lh0_2 w3 w4 w5 w6) Q) := by
  intro n
  induction n with
  | zero => intro l1 x3 l25 x26 x27 lh0_0 lh0_1 lh0_2 w3 w4 w5 w6 h; exact h.elim
  | succ n ih =>
    intro l1 x3 l25 x26 x27 lh0_0 lh0_1 lh0_2 w3 w4 w5 w6 h
    exact kcO (t43_0_eq n Q l1 x3 l25 x26 x27 lh0_0 lh0_1 lh0_2 w3 w4 w5 w6) (t43_0_mono (fun _ _ _ _ _ _ _ _ _ _ _ _ h => (ih _ _ _ _ _ _ _ _ _ _ _ _ h).out) (fun _ _ h => (hr0 _ _ h).out) (fun _ _ _ _ h => (hr1 _ _ _ _ h).out) l1 x3 l25 x26 x27 lh0_0 lh0_1 lh0_2 w3 w4 w5 w6 h)
def t43 (Q : List V1 → List Ob → Prop) (lp0 : K.ty k45 → K.ty (K.slice (4 : TypeId) K.bool) → K.ty k26 → K.ty (K.int IntKind.i64) → Prop) (p0 : K.ty k45) (p1 : K.ty (K.slice (4 : TypeId) K.bool)) (p2 : K.ty k26) (p3 : K.ty (K.int IntKind.i64)) : Prop :=
  small p2 ∧ ((0 : Int) ≤ (↑(List.length p0.snd.fst) : Int) ∧ (↑(List.length p0.snd.fst) : Int) ≤ (↑(List.length p0.snd.fst) : Int) ∧ (↑(List.length p0.snd.fst) : Int) ≤ (17592186044416 : Int)) ∧ room tt (4 : TypeId) (Int.toNat (↑(List.length p0.snd.fst) : Int)) ∧ lp0 p0 p1 p2 p3
theorem t43_mono {Q : List V1 → List Ob → Prop} {Q' : List V1 → List Ob → Prop} {lp0 : K.ty k45 → K.ty (K.slice (4 : TypeId) K.bool) → K.ty k26 → K.ty (K.int IntKind.i64) → Prop} {lp0' : K.ty k45 → K.ty (K.slice (4 : TypeId) K.bool) → K.ty k26 → K.ty (K.int IntKind.i64) → Prop} (hq : ∀ r h, Q r h → Q' r h) (hlp0 : ∀ p0 p1 p2 p3, lp0 p0 p1 p2 p3 → lp0' p0 p1 p2 p3) (p0 : K.ty k45) (p1 : K.ty (K.slice (4 : TypeId) K.bool)) (p2 : K.ty k26) (p3 : K.ty (K.int IntKind.i64)) :
    t43 Q lp0 p0 p1 p2 p3 → t43 Q' lp0' p0 p1 p2 p3 :=
  andM (id) (andM (andM (id) (andM (id) (id))) (andM (id) (hlp0 _ _ _ _)))
theorem t43_eq (Q : List V1 → List Ob → Prop) (p0 : K.ty k45) (p1 : K.ty (K.slice (4 : TypeId) K.bool)) (p2 : K.ty k26) (p3 : K.ty (K.int IntKind.i64)) :
    t43 Q (fun p0 p1 p2 p3 => ∃ m, loopP (awp tt E43 A43 L43_0 0) ([(1 : Nat), (3 : Nat), (6 : Nat), (9 : Nat), (11 : Nat), (12 : Nat), (25 : Nat), (26 : Nat), (27 : Nat)], [(9 : Nat), (11 : Nat), (12 : Nat)], [(8 : Nat), (9 : Nat), (10 : Nat)]) m (S43_0 (p1) (p3) (p0.snd.fst) ((↑(List.length p0.snd.fst) : Int)) ((0 : Int)) (p2.fst) (p2.snd.fst) (p2.snd.snd) (List.replicate (Int.toNat (↑(List.length p0.snd.fst) : Int)) (K.dflt K.bool)) (p2.fst) (p2.snd.fst) (p2.snd.snd)) (blkC (0 : Nat) (seqC (awp tt E43 A43 (Code.b (Code.b (Code.b (Code.b (Func.code Try.f43))))) (0 : Nat)) (topC tt Try.f43 0 Q)))) p0 p1 p2 p3 = (afun tt E43 A43 Try.f43 (I43 p0 p1 p2 p3) [] Q) := by kernel_rfl
def t43c0x1 (Q : List V1 → List Ob → Prop) (p0 : K.ty k45) (p1 : K.ty (K.slice (4 : TypeId) K.bool)) (p2 : K.ty k26) (p3 : K.ty (K.int IntKind.i64)) (w2e4 : List (K.ty K.bool)) (w3e4 : List (K.ty K.bool)) (w4e4 : List (K.ty K.bool)) (w5e4 : List (K.ty K.bool)) : Prop :=
  Q [V1.one (Lf.own (0 : Nat)), V1.agg [Lf.own ((0 : Nat) + (1 : Nat)), Lf.own ((0 : Nat) + (1 : Nat) + (1 : Nat)), Lf.own ((0 : Nat) + (1 : Nat) + (1 : Nat) + (1 : Nat))], V1.one (Lf.int IntKind.i64 (0 : Int))] [Ob.row (4 : TypeId) K.bool w2e4, Ob.row (4 : TypeId) K.bool w3e4, Ob.row (4 : TypeId) K.bool w4e4, Ob.row (4 : TypeId) K.bool w5e4]
theorem t43c0x1_mono {Q : List V1 → List Ob → Prop} {Q' : List V1 → List Ob → Prop} (hq : ∀ r h, Q r h → Q' r h) (p0 : K.ty k45) (p1 : K.ty (K.slice (4 : TypeId) K.bool)) (p2 : K.ty k26) (p3 : K.ty (K.int IntKind.i64)) (w2e4 : List (K.ty K.bool)) (w3e4 : List (K.ty K.bool)) (w4e4 : List (K.ty K.bool)) (w5e4 : List (K.ty K.bool)) :
    t43c0x1 Q p0 p1 p2 p3 w2e4 w3e4 w4e4 w5e4 → t43c0x1 Q' p0 p1 p2 p3 w2e4 w3e4 w4e4 w5e4 :=
  hq _ _
theorem t43c0x1_eq (Q : List V1 → List Ob → Prop) (p0 : K.ty k45) (p1 : K.ty (K.slice (4 : TypeId) K.bool)) (p2 : K.ty k26) (p3 : K.ty (K.int IntKind.i64)) (w2e4 : List (K.ty K.bool)) (w3e4 : List (K.ty K.bool)) (w4e4 : List (K.ty K.bool)) (w5e4 : List (K.ty K.bool)) :
    t43c0x1 Q p0 p1 p2 p3 w2e4 w3e4 w4e4 w5e4 = ((blkC (0 : Nat) (seqC (awp tt E43 A43 (Code.b (Code.b (Code.b (Code.b (Func.code Try.f43))))) (0 : Nat)) (topC tt Try.f43 0 Q))) (Ex.exit (nat_lit 0)) (X43_0_1 w2e4 w3e4 w4e4 w5e4)) := by kernel_rfl
def t43c0x0 (Q : List V1 → List Ob → Prop) (p0 : K.ty k45) (p1 : K.ty (K.slice (4 : TypeId) K.bool)) (p2 : K.ty k26) (p3 : K.ty (K.int IntKind.i64)) (x10e4 : Int) (w0e4 : List (K.ty K.bool)) : Prop :=
  Q [V1.one (Lf.own (0 : Nat)), V1.agg [Lf.nils, Lf.nils, Lf.nils], V1.one (Lf.int IntKind.i64 x10e4)] [Ob.row (4 : TypeId) K.bool w0e4]
theorem t43c0x0_mono {Q : List V1 → List Ob → Prop} {Q' : List V1 → List Ob → Prop} (hq : ∀ r h, Q r h → Q' r h) (p0 : K.ty k45) (p1 : K.ty (K.slice (4 : TypeId) K.bool)) (p2 : K.ty k26) (p3 : K.ty (K.int IntKind.i64)) (x10e4 : Int) (w0e4 : List (K.ty K.bool)) :
    t43c0x0 Q p0 p1 p2 p3 x10e4 w0e4 → t43c0x0 Q' p0 p1 p2 p3 x10e4 w0e4 :=
  hq _ _
theorem t43c0x0_eq (Q : List V1 → List Ob → Prop) (p0 : K.ty k45) (p1 : K.ty (K.slice (4 : TypeId) K.bool)) (p2 : K.ty k26) (p3 : K.ty (K.int IntKind.i64)) (x10e4 : Int) (w0e4 : List (K.ty K.bool)) :
    t43c0x0 Q p0 p1 p2 p3 x10e4 w0e4 = ((blkC (0 : Nat) (seqC (awp tt E43 A43 (Code.b (Code.b (Code.b (Code.b (Func.code Try.f43))))) (0 : Nat)) (topC tt Try.f43 0 Q))) (Ex.ret) (X43_0_0 x10e4 w0e4)) := by kernel_rfl
def H43 (Q : List V1 → List Ob → Prop) (p0 : K.ty k45) (p1 : K.ty (K.slice (4 : TypeId) K.bool)) (p2 : K.ty k26) (p3 : K.ty (K.int IntKind.i64)) : Prop := t43 Q (fun p0 p1 p2 p3 => ∃ m, G43_0 (fun x10e4 w0e4 => t43c0x0 Q p0 p1 p2 p3 x10e4 w0e4) (fun w2e4 w3e4 w4e4 w5e4 => t43c0x1 Q p0 p1 p2 p3 w2e4 w3e4 w4e4 w5e4) m (p1) (p3) (p0.snd.fst) ((↑(List.length p0.snd.fst) : Int)) ((0 : Int)) (p2.fst) (p2.snd.fst) (p2.snd.snd) (List.replicate (Int.toNat (↑(List.length p0.snd.fst) : Int)) (K.dflt K.bool)) (p2.fst) (p2.snd.fst) (p2.snd.snd)) p0 p1 p2 p3
theorem ok43 (Q : List V1 → List Ob → Prop) (p0 : K.ty k45) (p1 : K.ty (K.slice (4 : TypeId) K.bool)) (p2 : K.ty k26) (p3 : K.ty (K.int IntKind.i64)) (h : H43 Q p0 p1 p2 p3) : Of (afun tt E43 A43 Try.f43 (I43 p0 p1 p2 p3) [] Q) :=
  kcO (t43_eq Q p0 p1 p2 p3) (t43_mono (fun _ _ h => h) (fun p0 p1 p2 p3 ⟨m, h⟩ => ⟨m, (T43_0 _ (fun x10e4 w0e4 h => kcO (t43c0x0_eq _ _ _ _ _ _ _) (t43c0x0_mono (fun _ _ h => h) _ _ _ _ _ _ h)) (fun w2e4 w3e4 w4e4 w5e4 h => kcO (t43c0x1_eq _ _ _ _ _ _ _ _ _) (t43c0x1_mono (fun _ _ h => h) _ _ _ _ _ _ _ _ h)) m _ _ _ _ _ _ _ _ _ _ _ _ h).out⟩) p0 p1 p2 p3 h)
theorem env43 : EnvOk Try.prog E43 := .cons spec25 (by kernel_rfl) <| .cons spec51 (by kernel_rfl) <| .cons spec58 (by kernel_rfl) <| .cons spec59 (by kernel_rfl) <| .nil
theorem set_pre (on : List Bool) (k : Nat) (v : Bool) : List.set (on ++ List.replicate (k + 1) false) on.length v = (on ++ [v]) ++ List.replicate k false := by
  rw [List.set_append_right _ _ (Nat.le_refl _), Nat.sub_self, List.replicate_succ, List.set_cons_zero, List.append_assoc]; rfl
theorem loop43 (inp : List Bool) (st : Sta) (cs : List Con) (R0 : Int → List Bool → Prop) (R1 : List Bool → List Bool → List Bool → List Bool → Prop) (hl : cs.length ≤ 1000000) :
    ∀ n k (i : Nat) (slot : Int) (e on : List Bool), k < n → i + k = cs.length → on.length = i → e.length ≤ 1000000000000 →
      ((conGo inp st (cs.drop i) slot e on).2.2 ≠ 0 → R0 (conGo inp st (cs.drop i) slot e on).2.2 []) →
      ((conGo inp st (cs.drop i) slot e on).2.2 = 0 → R1 (conGo inp st (cs.drop i) slot e on).1 st.1 st.2.1 (conGo inp st (cs.drop i) slot e on).2.1) →
      G43_0 R0 R1 n inp slot cs cs.length i st.1 st.2.1 st.2.2 (on ++ List.replicate k false) st.1 st.2.1 e := by
  intro n
  induction n with
  | zero => intro k i slot e on h; omega
  | succ n ih =>
    intro k i slot e on hk hi hon he h0 h1
    refine brP_intro (fun d => ?_) (fun d => ?_)
    · have d : i < cs.length := by simpa using d
      cases k with
      | zero => omega
      | succ k =>
        rw [getE_cons k74 cs i d] at h0 h1
        simp only [conGo] at h0 h1
        have bi : bound (i : Int) (on ++ List.replicate (k + 1) false).length := ⟨by omega, by rw [List.length_append, List.length_replicate]; omega⟩
        have hset : ∀ v, List.set (on ++ List.replicate (k + 1) false) (Int.toNat i) v = (on ++ [v]) ++ List.replicate k false := fun v => by
          rw [Int.toNat_natCast, ← hon]; exact set_pre on k v
        refine ⟨⟨by omega, by omega⟩, ?_⟩
        refine brP_intro (fun a => ?_) (fun a => ?_)
        · simp only [a, cond_true] at h0; exact h0 (by decide)
        refine brP_intro (fun b => ?_) (fun b => ?_)
        · simp only [a, b, cond_true, cond_false] at h0; exact h0 (by decide)
        simp only [a, b, cond_false] at h0 h1
        have hkind : bound (getE k74 cs i).1 4 := by
          have a' : ¬ (getE k74 cs i).1 < (0 : Int) := by simpa using a
          have b' : ¬ (getE k74 cs i).1 ≥ (4 : Int) := by simpa using b
          exact ⟨Int.not_lt.1 a', Int.not_le.1 b'⟩
        refine brP_intro (fun c => ?_) (fun c => ?_)
        · have c : ((readS inp st (getE k74 cs i).2.1).2 != 0) = true := c
          simp only [c, cond_true] at h0; exact h0 (by simpa using c)
        have c : ((readS inp st (getE k74 cs i).2.1).2 != 0) = false := c
        simp only [c, cond_false] at h0 h1
        refine brP_intro (fun f => ?_) (fun f => ?_)
        · simp only [f, cond_true] at h0 h1
          refine brP_intro (fun g => ?_) (fun g => ?_)
          · simp only [g, cond_true] at h0; exact h0 (by decide)
          refine brP_intro (fun j => ?_) (fun j => ?_)
          · have j : decide (slot ≥ (e.length : Int)) = true := j
            simp only [g, j, cond_true, cond_false] at h0; exact h0 (by decide)
          have j : decide (slot ≥ (e.length : Int)) = false := j
          simp only [g, j, cond_false] at h0 h1
          have g' : ¬ slot < 0 := by simpa using g
          have j' : ¬ slot ≥ (e.length : Int) := by simpa using j
          have bs : bound slot e.length := ⟨by omega, by omega⟩
          refine ⟨bs, bs, hkind, bi, ?_⟩
          rw [hset, wrap_in (by omega) (by omega), wrap_in (by omega) (by omega)]
          exact ih k (i + 1) (slot + 1) _ _ (by omega) (by omega) (by rw [List.length_append, hon]; rfl) (by rw [List.length_set]; exact he) h0 h1
        · simp only [f, cond_false] at h0 h1
          refine ⟨hkind, bi, ?_⟩
          rw [hset, wrap_in (by omega) (by omega)]
          exact ih k (i + 1) slot _ _ (by omega) (by omega) (by rw [List.length_append, hon]; rfl) he h0 h1
    · have d : ¬ i < cs.length := by simpa using d
      obtain rfl : k = 0 := by omega
      rw [List.drop_of_length_le (by omega)] at h1
      have := h1 rfl
      simpa [conGo] using this
theorem spec43 : SpecOk Try.prog 43 sp43 := S4.okS tt_ok mixed [kbs, k26, ki] env43 Try.func43 fun (r : Rung) (inp : List Bool) (st : Sta) (slot : Int) Q h => ok43 _ r inp st slot <| by
  obtain ⟨⟨hs, hl⟩, h⟩ := h
  have hl' : (r.snd.fst).length ≤ 1000000 := hl
  unfold contactsR at h
  have hlen := loop43 inp st r.contacts (fun x w => t43c0x0 (SQ [kbs, k26, ki] Q) r inp st slot x w) (fun a b c d => t43c0x1 (SQ [kbs, k26, ki] Q) r inp st slot a b c d) hl (r.contacts.length + 1) r.contacts.length 0 slot st.2.2 []
    (by omega) (by omega) rfl hs.2.2 (fun h0 => ?_) (fun h0 => ?_)
  · exact ⟨hs, ⟨by omega, by omega, by omega⟩, room4 (by omega), _, hlen⟩
  · rw [List.drop_zero] at h0 ⊢
    have e : ((conGo inp st r.contacts slot st.2.2 []).2.2 != 0) = true := by simpa using h0
    simp only [e, cond_true] at h
    exact h
  · rw [List.drop_zero] at h0 ⊢
    have e : ((conGo inp st r.contacts slot st.2.2 []).2.2 != 0) = false := by simpa using h0
    simp only [e, cond_false] at h
    exact h
end Go.AM
namespace Go.AM
open Go.Proofs
-- f44 "busbar/rungeval.Conducts" ['46', '25'] -> ['4', '32']
def A44 : Ann := [(0, [1, 2, 6, 7], [6], [4, 5]), (2, [1, 2, 6, 7, 8, 29, 30, 31], [1, 2, 6, 7], [4, 5])]
def E44 : Env := []
def I44 (p0 : (k45 : K).ty) (p1 : ((.slice 4 .bool) : K).ty) : List V1 := [nfK k45 p0, nfK (.slice 4 .bool) p1]
noncomputable def L44_0 : Code := Code.a (Code.a (Code.a (Code.b (Code.b (Code.b (Code.b (Func.code Try.f44)))))))
def S44_0 (l1 : List (K.ty K.bool)) (sh0_0 : ByteArray) (lh0_1 : List (K.ty k74)) (lh0_2 : List (K.ty k76)) (sh0_3 : ByteArray) (m1 : List (ByteArray × Bool)) (w2 : List (K.ty ((9 : TypeId), K.str).snd)) : St := sp (64 : Nat) [((1 : Nat), V.v (V1.one (Lf.sl (4 : TypeId) K.bool l1))), ((2 : Nat), V.v (V1.one (Lf.ptr (nat_lit 0) (nat_lit 0)))), ((6 : Nat), V.v (V1.one (Lf.mp (nat_lit 1)))), ((7 : Nat), V.v (V1.one (Lf.own (nat_lit 2))))] [Ob.box (46 : Nat) [Lf.str sh0_0, Lf.sl (75 : TypeId) k74 lh0_1, Lf.sl (77 : TypeId) k76 lh0_2, Lf.str sh0_3], Ob.map m1, Ob.row (9 : TypeId) K.str w2]
def X44_0_0 (m0 : List (ByteArray × Bool)) : St := sp (64 : Nat) [((6 : Nat), V.v (V1.one (Lf.mp (nat_lit 0))))] [Ob.map m0]
noncomputable def L44_2 : Code := Code.a (Code.a (Code.b (Code.b (Code.b (Code.a (Code.b (Code.a (Code.a (Code.a (Code.b (Code.b (Code.b (Code.b (Func.code Try.f44))))))))))))))
def S44_2 (l1 : List (K.ty K.bool)) (s8 : ByteArray) (l29 : List (K.ty k74)) (x30 : Int) (x31 : Int) (sh0_0 : ByteArray) (lh0_1 : List (K.ty k74)) (lh0_2 : List (K.ty k76)) (sh0_3 : ByteArray) (m1 : List (ByteArray × Bool)) (w2 : List (K.ty K.str)) : St := sp (64 : Nat) [((1 : Nat), V.v (V1.one (Lf.sl (4 : TypeId) K.bool l1))), ((2 : Nat), V.v (V1.one (Lf.ptr (nat_lit 0) (nat_lit 0)))), ((6 : Nat), V.v (V1.one (Lf.mp (nat_lit 1)))), ((7 : Nat), V.v (V1.one (Lf.own (nat_lit 2)))), ((8 : Nat), V.v (V1.one (Lf.str s8))), ((29 : Nat), V.v (V1.one (Lf.sl (75 : TypeId) k74 l29))), ((30 : Nat), V.v (V1.one (Lf.int IntKind.i64 x30))), ((31 : Nat), V.v (V1.one (Lf.int IntKind.i64 x31)))] [Ob.box (46 : Nat) [Lf.str sh0_0, Lf.sl (75 : TypeId) k74 lh0_1, Lf.sl (77 : TypeId) k76 lh0_2, Lf.str sh0_3], Ob.map m1, Ob.row (9 : TypeId) K.str w2]
def X44_2_0 (l1 : List (K.ty K.bool)) (sh0_0 : ByteArray) (lh0_1 : List (K.ty k74)) (lh0_2 : List (K.ty k76)) (sh0_3 : ByteArray) (m1 : List (ByteArray × Bool)) (w2 : List (K.ty K.str)) : St := sp (64 : Nat) [((1 : Nat), V.v (V1.one (Lf.sl (4 : TypeId) K.bool l1))), ((2 : Nat), V.v (V1.one (Lf.ptr (nat_lit 0) (nat_lit 0)))), ((6 : Nat), V.v (V1.one (Lf.mp (nat_lit 1)))), ((7 : Nat), V.v (V1.one (Lf.own (nat_lit 2))))] [Ob.box (46 : Nat) [Lf.str sh0_0, Lf.sl (75 : TypeId) k74 lh0_1, Lf.sl (77 : TypeId) k76 lh0_2, Lf.str sh0_3], Ob.map m1, Ob.row (9 : TypeId) K.str w2]
def t44_2 (again : List (K.ty K.bool) → ByteArray → List (K.ty k74) → Int → Int → ByteArray → List (K.ty k74) → List (K.ty k76) → ByteArray → List (ByteArray × Bool) → List (K.ty K.str) → Prop) (R0 : List (K.ty K.bool) → ByteArray → List (K.ty k74) → List (K.ty k76) → ByteArray → List (ByteArray × Bool) → List (K.ty K.str) → Prop) (l1 : List (K.ty K.bool)) (s8 : ByteArray) (l29 : List (K.ty k74)) (x30 : Int) (x31 : Int) (sh0_0 : ByteArray) (lh0_1 : List (K.ty k74)) (lh0_2 : List (K.ty k76)) (sh0_3 : ByteArray) (m1 : List (ByteArray × Bool)) (w2 : List (K.ty K.str)) : Prop :=
  brP (decide (x31 < x30)) (bound x31 (List.length l29) ∧ bound x31 (List.length l1) ∧ brP (getE K.bool l1 x31) (brP (ByteArray.toList (getE k74 l29 x31).snd.snd.fst == ByteArray.toList s8) (brP (!mget m1 (getE k74 l29 x31).snd.snd.snd) (room tt (9 : TypeId) (List.length w2 + List.length (List.set (List.replicate (1 : Nat) (K.dflt K.str)) (0 : Nat) (getE k74 l29 x31).snd.snd.snd)) ∧ again l1 s8 l29 x30 (IntKind.wrap IntKind.i64 (x31 + (1 : Int))) sh0_0 lh0_1 lh0_2 sh0_3 (mset m1 (getE k74 l29 x31).snd.snd.snd true) (w2 ++ List.set (List.replicate (1 : Nat) (K.dflt K.str)) (0 : Nat) (getE k74 l29 x31).snd.snd.snd)) (again l1 s8 l29 x30 (IntKind.wrap IntKind.i64 (x31 + (1 : Int))) sh0_0 lh0_1 lh0_2 sh0_3 m1 w2)) (again l1 s8 l29 x30 (IntKind.wrap IntKind.i64 (x31 + (1 : Int))) sh0_0 lh0_1 lh0_2 sh0_3 m1 w2)) (again l1 s8 l29 x30 (IntKind.wrap IntKind.i64 (x31 + (1 : Int))) sh0_0 lh0_1 lh0_2 sh0_3 m1 w2)) (R0 l1 sh0_0 lh0_1 lh0_2 sh0_3 m1 w2)
theorem t44_2_mono {again : List (K.ty K.bool) → ByteArray → List (K.ty k74) → Int → Int → ByteArray → List (K.ty k74) → List (K.ty k76) → ByteArray → List (ByteArray × Bool) → List (K.ty K.str) → Prop} {R0 : List (K.ty K.bool) → ByteArray → List (K.ty k74) → List (K.ty k76) → ByteArray → List (ByteArray × Bool) → List (K.ty K.str) → Prop} {again' : List (K.ty K.bool) → ByteArray → List (K.ty k74) → Int → Int → ByteArray → List (K.ty k74) → List (K.ty k76) → ByteArray → List (ByteArray × Bool) → List (K.ty K.str) → Prop} {R0' : List (K.ty K.bool) → ByteArray → List (K.ty k74) → List (K.ty k76) → ByteArray → List (ByteArray × Bool) → List (K.ty K.str) → Prop} (ha : ∀ l1 s8 l29 x30 x31 sh0_0 lh0_1 lh0_2 sh0_3 m1 w2, again l1 s8 l29 x30 x31 sh0_0 lh0_1 lh0_2 sh0_3 m1 w2 → again' l1 s8 l29 x30 x31 sh0_0 lh0_1 lh0_2 sh0_3 m1 w2) (hr0 : ∀ l1 sh0_0 lh0_1 lh0_2 sh0_3 m1 w2, R0 l1 sh0_0 lh0_1 lh0_2 sh0_3 m1 w2 → R0' l1 sh0_0 lh0_1 lh0_2 sh0_3 m1 w2) (l1 : List (K.ty K.bool)) (s8 : ByteArray) (l29 : List (K.ty k74)) (x30 : Int) (x31 : Int) (sh0_0 : ByteArray) (lh0_1 : List (K.ty k74)) (lh0_2 : List (K.ty k76)) (sh0_3 : ByteArray) (m1 : List (ByteArray × Bool)) (w2 : List (K.ty K.str)) :
    t44_2 again R0 l1 s8 l29 x30 x31 sh0_0 lh0_1 lh0_2 sh0_3 m1 w2 → t44_2 again' R0' l1 s8 l29 x30 x31 sh0_0 lh0_1 lh0_2 sh0_3 m1 w2 :=
  brM (andM (id) (andM (id) (brM (brM (brM (andM (id) (ha _ _ _ _ _ _ _ _ _ _ _)) (ha _ _ _ _ _ _ _ _ _ _ _)) (ha _ _ _ _ _ _ _ _ _ _ _)) (ha _ _ _ _ _ _ _ _ _ _ _)))) (hr0 _ _ _ _ _ _ _)
theorem t44_2_eq (n : Nat) (Q : Ex → St → Prop) (l1 : List (K.ty K.bool)) (s8 : ByteArray) (l29 : List (K.ty k74)) (x30 : Int) (x31 : Int) (sh0_0 : ByteArray) (lh0_1 : List (K.ty k74)) (lh0_2 : List (K.ty k76)) (sh0_3 : ByteArray) (m1 : List (ByteArray × Bool)) (w2 : List (K.ty K.str)) :
    t44_2 (fun l1 s8 l29 x30 x31 sh0_0 lh0_1 lh0_2 sh0_3 m1 w2 => loopP (awp tt E44 A44 L44_2 2) ([(1 : Nat), (2 : Nat), (6 : Nat), (7 : Nat), (8 : Nat), (29 : Nat), (30 : Nat), (31 : Nat)], [(1 : Nat), (2 : Nat), (6 : Nat), (7 : Nat)], [(4 : Nat), (5 : Nat)]) n (S44_2 l1 s8 l29 x30 x31 sh0_0 lh0_1 lh0_2 sh0_3 m1 w2) Q) (fun l1 sh0_0 lh0_1 lh0_2 sh0_3 m1 w2 => Q (Ex.exit (nat_lit 2)) (X44_2_0 l1 sh0_0 lh0_1 lh0_2 sh0_3 m1 w2)) l1 s8 l29 x30 x31 sh0_0 lh0_1 lh0_2 sh0_3 m1 w2 = (loopP (awp tt E44 A44 L44_2 2) ([(1 : Nat), (2 : Nat), (6 : Nat), (7 : Nat), (8 : Nat), (29 : Nat), (30 : Nat), (31 : Nat)], [(1 : Nat), (2 : Nat), (6 : Nat), (7 : Nat)], [(4 : Nat), (5 : Nat)]) (n + 1) (S44_2 l1 s8 l29 x30 x31 sh0_0 lh0_1 lh0_2 sh0_3 m1 w2) Q) := by kernel_rfl
def G44_2 (R0 : List (K.ty K.bool) → ByteArray → List (K.ty k74) → List (K.ty k76) → ByteArray → List (ByteArray × Bool) → List (K.ty K.str) → Prop) : Nat → List (K.ty K.bool) → ByteArray → List (K.ty k74) → Int → Int → ByteArray → List (K.ty k74) → List (K.ty k76) → ByteArray → List (ByteArray × Bool) → List (K.ty K.str) → Prop
  | 0, _, _, _, _, _, _, _, _, _, _, _ => False
  | n + 1, l1, s8, l29, x30, x31, sh0_0, lh0_1, lh0_2, sh0_3, m1, w2 => t44_2 (G44_2 R0 n) R0 l1 s8 l29 x30 x31 sh0_0 lh0_1 lh0_2 sh0_3 m1 w2
theorem T44_2 {R0 : List (K.ty K.bool) → ByteArray → List (K.ty k74) → List (K.ty k76) → ByteArray → List (ByteArray × Bool) → List (K.ty K.str) → Prop} (Q : Ex → St → Prop) (hr0 : ∀ l1 sh0_0 lh0_1 lh0_2 sh0_3 m1 w2, R0 l1 sh0_0 lh0_1 lh0_2 sh0_3 m1 w2 → Of (Q (Ex.exit (nat_lit 2)) (X44_2_0 l1 sh0_0 lh0_1 lh0_2 sh0_3 m1 w2))) : ∀ (n : Nat) (l1 : List (K.ty K.bool)) (s8 : ByteArray) (l29 : List (K.ty k74)) (x30 : Int) (x31 : Int) (sh0_0 : ByteArray) (lh0_1 : List (K.ty k74)) (lh0_2 : List (K.ty k76)) (sh0_3 : ByteArray) (m1 : List (ByteArray × Bool)) (w2 : List (K.ty K.str)), G44_2 R0 n l1 s8 l29 x30 x31 sh0_0 lh0_1 lh0_2 sh0_3 m1 w2 → Of (loopP (awp tt E44 A44 L44_2 2) ([(1 : Nat), (2 : Nat), (6 : Nat), (7 : Nat), (8 : Nat), (29 : Nat), (30 : Nat), (31 : Nat)], [(1 : Nat), (2 : Nat), (6 : Nat), (7 : Nat)], [(4 : Nat), (5 : Nat)]) n (S44_2 l1 s8 l29 x30 x31 sh0_0 lh0_1 lh0_2 sh0_3 m1 w2) Q) := by
  intro n
  induction n with
  | zero => intro l1 s8 l29 x30 x31 sh0_0 lh0_1 lh0_2 sh0_3 m1 w2 h; exact h.elim
  | succ n ih =>
    intro l1 s8 l29 x30 x31 sh0_0 lh0_1 lh0_2 sh0_3 m1 w2 h
    exact kcO (t44_2_eq n Q l1 s8 l29 x30 x31 sh0_0 lh0_1 lh0_2 sh0_3 m1 w2) (t44_2_mono (fun _ _ _ _ _ _ _ _ _ _ _ h => (ih _ _ _ _ _ _ _ _ _ _ _ h).out) (fun _ _ _ _ _ _ _ h => (hr0 _ _ _ _ _ _ _ h).out) l1 s8 l29 x30 x31 sh0_0 lh0_1 lh0_2 sh0_3 m1 w2 h)
def t44_0 (again : List (K.ty K.bool) → ByteArray → List (K.ty k74) → List (K.ty k76) → ByteArray → List (ByteArray × Bool) → List (K.ty ((9 : TypeId), K.str).snd) → Prop) (R0 : List (ByteArray × Bool) → Prop) (lp0 : List (K.ty K.bool) → ByteArray → List (K.ty k74) → List (K.ty k76) → ByteArray → List (ByteArray × Bool) → List (K.ty ((9 : TypeId), K.str).snd) → Prop) (l1 : List (K.ty K.bool)) (sh0_0 : ByteArray) (lh0_1 : List (K.ty k74)) (lh0_2 : List (K.ty k76)) (sh0_3 : ByteArray) (m1 : List (ByteArray × Bool)) (w2 : List (K.ty ((9 : TypeId), K.str).snd)) : Prop :=
  brP (decide ((↑(List.length w2) : Int) > (0 : Int))) (bound (0 : Int) (List.length w2) ∧ ((0 : Int) ≤ (1 : Int) ∧ (1 : Int) ≤ (↑(List.length w2) : Int) ∧ (0 : Nat) < List.length w2) ∧ lp0 l1 sh0_0 lh0_1 lh0_2 sh0_3 m1 w2) (R0 m1)
theorem t44_0_mono {again : List (K.ty K.bool) → ByteArray → List (K.ty k74) → List (K.ty k76) → ByteArray → List (ByteArray × Bool) → List (K.ty ((9 : TypeId), K.str).snd) → Prop} {R0 : List (ByteArray × Bool) → Prop} {again' : List (K.ty K.bool) → ByteArray → List (K.ty k74) → List (K.ty k76) → ByteArray → List (ByteArray × Bool) → List (K.ty ((9 : TypeId), K.str).snd) → Prop} {R0' : List (ByteArray × Bool) → Prop} {lp0 : List (K.ty K.bool) → ByteArray → List (K.ty k74) → List (K.ty k76) → ByteArray → List (ByteArray × Bool) → List (K.ty ((9 : TypeId), K.str).snd) → Prop} {lp0' : List (K.ty K.bool) → ByteArray → List (K.ty k74) → List (K.ty k76) → ByteArray → List (ByteArray × Bool) → List (K.ty ((9 : TypeId), K.str).snd) → Prop} (ha : ∀ l1 sh0_0 lh0_1 lh0_2 sh0_3 m1 w2, again l1 sh0_0 lh0_1 lh0_2 sh0_3 m1 w2 → again' l1 sh0_0 lh0_1 lh0_2 sh0_3 m1 w2) (hr0 : ∀ m0, R0 m0 → R0' m0) (hlp0 : ∀ l1 sh0_0 lh0_1 lh0_2 sh0_3 m1 w2, lp0 l1 sh0_0 lh0_1 lh0_2 sh0_3 m1 w2 → lp0' l1 sh0_0 lh0_1 lh0_2 sh0_3 m1 w2) (l1 : List (K.ty K.bool)) (sh0_0 : ByteArray) (lh0_1 : List (K.ty k74)) (lh0_2 : List (K.ty k76)) (sh0_3 : ByteArray) (m1 : List (ByteArray × Bool)) (w2 : List (K.ty ((9 : TypeId), K.str).snd)) :
    t44_0 again R0 lp0 l1 sh0_0 lh0_1 lh0_2 sh0_3 m1 w2 → t44_0 again' R0' lp0' l1 sh0_0 lh0_1 lh0_2 sh0_3 m1 w2 :=
  brM (andM (id) (andM (andM (id) (andM (id) (id))) (hlp0 _ _ _ _ _ _ _))) (hr0 _)
theorem t44_0_eq (n : Nat) (Q : Ex → St → Prop) (l1 : List (K.ty K.bool)) (sh0_0 : ByteArray) (lh0_1 : List (K.ty k74)) (lh0_2 : List (K.ty k76)) (sh0_3 : ByteArray) (m1 : List (ByteArray × Bool)) (w2 : List (K.ty ((9 : TypeId), K.str).snd)) :
    t44_0 (fun l1 sh0_0 lh0_1 lh0_2 sh0_3 m1 w2 => loopP (awp tt E44 A44 L44_0 0) ([(1 : Nat), (2 : Nat), (6 : Nat), (7 : Nat)], [(6 : Nat)], [(4 : Nat), (5 : Nat)]) n (S44_0 l1 sh0_0 lh0_1 lh0_2 sh0_3 m1 w2) Q) (fun m0 => Q (Ex.exit (nat_lit 0)) (X44_0_0 m0)) (fun l1 sh0_0 lh0_1 lh0_2 sh0_3 m1 w2 => ∃ m, loopP (awp tt E44 A44 L44_2 2) ([(1 : Nat), (2 : Nat), (6 : Nat), (7 : Nat), (8 : Nat), (29 : Nat), (30 : Nat), (31 : Nat)], [(1 : Nat), (2 : Nat), (6 : Nat), (7 : Nat)], [(4 : Nat), (5 : Nat)]) m (S44_2 (l1) (getE K.str w2 (0 : Int)) (lh0_1) ((↑(List.length lh0_1) : Int)) ((0 : Int)) (sh0_0) (lh0_1) (lh0_2) (sh0_3) (m1) (List.drop (Int.toNat (1 : Int)) w2)) (blkC (2 : Nat) (blkC (1 : Nat) (loopC (awp tt E44 A44 (Code.a (Code.a (Code.a (Code.b (Code.b (Code.b (Code.b (Func.code Try.f44)))))))) (0 : Nat)) ([(1 : Nat), (2 : Nat), (6 : Nat), (7 : Nat)], [(6 : Nat)], [(4 : Nat), (5 : Nat)]) n Q)))) l1 sh0_0 lh0_1 lh0_2 sh0_3 m1 w2 = (loopP (awp tt E44 A44 L44_0 0) ([(1 : Nat), (2 : Nat), (6 : Nat), (7 : Nat)], [(6 : Nat)], [(4 : Nat), (5 : Nat)]) (n + 1) (S44_0 l1 sh0_0 lh0_1 lh0_2 sh0_3 m1 w2) Q) := by kernel_rfl
def t44_0c0x0 (again : List (K.ty K.bool) → ByteArray → List (K.ty k74) → List (K.ty k76) → ByteArray → List (ByteArray × Bool) → List (K.ty ((9 : TypeId), K.str).snd) → Prop) (R0 : List (ByteArray × Bool) → Prop) (l1 : List (K.ty K.bool)) (sh0_0 : ByteArray) (lh0_1 : List (K.ty k74)) (lh0_2 : List (K.ty k76)) (sh0_3 : ByteArray) (m1 : List (ByteArray × Bool)) (w2 : List (K.ty ((9 : TypeId), K.str).snd)) (l1e7 : List (K.ty K.bool)) (sh0_0e7 : ByteArray) (lh0_1e7 : List (K.ty k74)) (lh0_2e7 : List (K.ty k76)) (sh0_3e7 : ByteArray) (m1e7 : List (ByteArray × Bool)) (w2e7 : List (K.ty K.str)) : Prop :=
  again l1e7 sh0_0e7 lh0_1e7 lh0_2e7 sh0_3e7 m1e7 w2e7
theorem t44_0c0x0_mono {again : List (K.ty K.bool) → ByteArray → List (K.ty k74) → List (K.ty k76) → ByteArray → List (ByteArray × Bool) → List (K.ty ((9 : TypeId), K.str).snd) → Prop} {R0 : List (ByteArray × Bool) → Prop} {again' : List (K.ty K.bool) → ByteArray → List (K.ty k74) → List (K.ty k76) → ByteArray → List (ByteArray × Bool) → List (K.ty ((9 : TypeId), K.str).snd) → Prop} {R0' : List (ByteArray × Bool) → Prop} (ha : ∀ l1 sh0_0 lh0_1 lh0_2 sh0_3 m1 w2, again l1 sh0_0 lh0_1 lh0_2 sh0_3 m1 w2 → again' l1 sh0_0 lh0_1 lh0_2 sh0_3 m1 w2) (hr0 : ∀ m0, R0 m0 → R0' m0) (l1 : List (K.ty K.bool)) (sh0_0 : ByteArray) (lh0_1 : List (K.ty k74)) (lh0_2 : List (K.ty k76)) (sh0_3 : ByteArray) (m1 : List (ByteArray × Bool)) (w2 : List (K.ty ((9 : TypeId), K.str).snd)) (l1e7 : List (K.ty K.bool)) (sh0_0e7 : ByteArray) (lh0_1e7 : List (K.ty k74)) (lh0_2e7 : List (K.ty k76)) (sh0_3e7 : ByteArray) (m1e7 : List (ByteArray × Bool)) (w2e7 : List (K.ty K.str)) :
    t44_0c0x0 again R0 l1 sh0_0 lh0_1 lh0_2 sh0_3 m1 w2 l1e7 sh0_0e7 lh0_1e7 lh0_2e7 sh0_3e7 m1e7 w2e7 → t44_0c0x0 again' R0' l1 sh0_0 lh0_1 lh0_2 sh0_3 m1 w2 l1e7 sh0_0e7 lh0_1e7 lh0_2e7 sh0_3e7 m1e7 w2e7 :=
  ha _ _ _ _ _ _ _
theorem t44_0c0x0_eq (n : Nat) (Q : Ex → St → Prop) (l1 : List (K.ty K.bool)) (sh0_0 : ByteArray) (lh0_1 : List (K.ty k74)) (lh0_2 : List (K.ty k76)) (sh0_3 : ByteArray) (m1 : List (ByteArray × Bool)) (w2 : List (K.ty ((9 : TypeId), K.str).snd)) (l1e7 : List (K.ty K.bool)) (sh0_0e7 : ByteArray) (lh0_1e7 : List (K.ty k74)) (lh0_2e7 : List (K.ty k76)) (sh0_3e7 : ByteArray) (m1e7 : List (ByteArray × Bool)) (w2e7 : List (K.ty K.str)) :
    t44_0c0x0 (fun l1 sh0_0 lh0_1 lh0_2 sh0_3 m1 w2 => loopP (awp tt E44 A44 L44_0 0) ([(1 : Nat), (2 : Nat), (6 : Nat), (7 : Nat)], [(6 : Nat)], [(4 : Nat), (5 : Nat)]) n (S44_0 l1 sh0_0 lh0_1 lh0_2 sh0_3 m1 w2) Q) (fun m0 => Q (Ex.exit (nat_lit 0)) (X44_0_0 m0)) l1 sh0_0 lh0_1 lh0_2 sh0_3 m1 w2 l1e7 sh0_0e7 lh0_1e7 lh0_2e7 sh0_3e7 m1e7 w2e7 = ((blkC (2 : Nat) (blkC (1 : Nat) (loopC (awp tt E44 A44 (Code.a (Code.a (Code.a (Code.b (Code.b (Code.b (Code.b (Func.code Try.f44)))))))) (0 : Nat)) ([(1 : Nat), (2 : Nat), (6 : Nat), (7 : Nat)], [(6 : Nat)], [(4 : Nat), (5 : Nat)]) n Q))) (Ex.exit (nat_lit 2)) (X44_2_0 l1e7 sh0_0e7 lh0_1e7 lh0_2e7 sh0_3e7 m1e7 w2e7)) := by kernel_rfl
def G44_0 (R0 : List (ByteArray × Bool) → Prop) : Nat → List (K.ty K.bool) → ByteArray → List (K.ty k74) → List (K.ty k76) → ByteArray → List (ByteArray × Bool) → List (K.ty ((9 : TypeId), K.str).snd) → Prop
  | 0, _, _, _, _, _, _, _ => False
  | n + 1, l1, sh0_0, lh0_1, lh0_2, sh0_3, m1, w2 => t44_0 (G44_0 R0 n) R0 (fun l1 sh0_0 lh0_1 lh0_2 sh0_3 m1 w2 => ∃ m, G44_2 (fun l1e7 sh0_0e7 lh0_1e7 lh0_2e7 sh0_3e7 m1e7 w2e7 => t44_0c0x0 (G44_0 R0 n) R0 l1 sh0_0 lh0_1 lh0_2 sh0_3 m1 w2 l1e7 sh0_0e7 lh0_1e7 lh0_2e7 sh0_3e7 m1e7 w2e7) m (l1) (getE K.str w2 (0 : Int)) (lh0_1) ((↑(List.length lh0_1) : Int)) ((0 : Int)) (sh0_0) (lh0_1) (lh0_2) (sh0_3) (m1) (List.drop (Int.toNat (1 : Int)) w2)) l1 sh0_0 lh0_1 lh0_2 sh0_3 m1 w2
theorem T44_0 {R0 : List (ByteArray × Bool) → Prop} (Q : Ex → St → Prop) (hr0 : ∀ m0, R0 m0 → Of (Q (Ex.exit (nat_lit 0)) (X44_0_0 m0))) : ∀ (n : Nat) (l1 : List (K.ty K.bool)) (sh0_0 : ByteArray) (lh0_1 : List (K.ty k74)) (lh0_2 : List (K.ty k76)) (sh0_3 : ByteArray) (m1 : List (ByteArray × Bool)) (w2 : List (K.ty ((9 : TypeId), K.str).snd)), G44_0 R0 n l1 sh0_0 lh0_1 lh0_2 sh0_3 m1 w2 → Of (loopP (awp tt E44 A44 L44_0 0) ([(1 : Nat), (2 : Nat), (6 : Nat), (7 : Nat)], [(6 : Nat)], [(4 : Nat), (5 : Nat)]) n (S44_0 l1 sh0_0 lh0_1 lh0_2 sh0_3 m1 w2) Q) := by
  intro n
  induction n with
  | zero => intro l1 sh0_0 lh0_1 lh0_2 sh0_3 m1 w2 h; exact h.elim
  | succ n ih =>
    intro l1 sh0_0 lh0_1 lh0_2 sh0_3 m1 w2 h
    exact kcO (t44_0_eq n Q l1 sh0_0 lh0_1 lh0_2 sh0_3 m1 w2) (t44_0_mono (fun _ _ _ _ _ _ _ h => (ih _ _ _ _ _ _ _ h).out) (fun _ h => (hr0 _ h).out) (fun l1 sh0_0 lh0_1 lh0_2 sh0_3 m1 w2 ⟨m, h⟩ => ⟨m, (T44_2 _ (fun l1e7 sh0_0e7 lh0_1e7 lh0_2e7 sh0_3e7 m1e7 w2e7 h => kcO (t44_0c0x0_eq _ _ _ _ _ _ _ _ _ _ _ _ _ _ _ _) (t44_0c0x0_mono (fun _ _ _ _ _ _ _ h => (ih _ _ _ _ _ _ _ h).out) (fun _ h => (hr0 _ h).out) _ _ _ _ _ _ _ _ _ _ _ _ _ _ h)) m _ _ _ _ _ _ _ _ _ _ _ h).out⟩) l1 sh0_0 lh0_1 lh0_2 sh0_3 m1 w2 h)
def t44 (Q : List V1 → List Ob → Prop) (lp0 : K.ty k45 → K.ty (K.slice (4 : TypeId) K.bool) → Prop) (p0 : K.ty k45) (p1 : K.ty (K.slice (4 : TypeId) K.bool)) : Prop :=
  brP ((↑(List.length p1) : Int) != (↑(List.length p0.snd.fst) : Int)) (Q [V1.one (Lf.bool false), V1.one (Lf.int IntKind.i64 (2 : Int))] []) (lp0 p0 p1)
theorem t44_mono {Q : List V1 → List Ob → Prop} {Q' : List V1 → List Ob → Prop} {lp0 : K.ty k45 → K.ty (K.slice (4 : TypeId) K.bool) → Prop} {lp0' : K.ty k45 → K.ty (K.slice (4 : TypeId) K.bool) → Prop} (hq : ∀ r h, Q r h → Q' r h) (hlp0 : ∀ p0 p1, lp0 p0 p1 → lp0' p0 p1) (p0 : K.ty k45) (p1 : K.ty (K.slice (4 : TypeId) K.bool)) :
    t44 Q lp0 p0 p1 → t44 Q' lp0' p0 p1 :=
  brM (hq _ _) (hlp0 _ _)
theorem t44_eq (Q : List V1 → List Ob → Prop) (p0 : K.ty k45) (p1 : K.ty (K.slice (4 : TypeId) K.bool)) :
    t44 Q (fun p0 p1 => ∃ m, loopP (awp tt E44 A44 L44_0 0) ([(1 : Nat), (2 : Nat), (6 : Nat), (7 : Nat)], [(6 : Nat)], [(4 : Nat), (5 : Nat)]) m (S44_0 (p1) (p0.fst) (p0.snd.fst) (p0.snd.snd.fst) (p0.snd.snd.snd) (mset [] (ByteArray.mk #[(76 : UInt8)]) true) (List.set (List.replicate (1 : Nat) (K.dflt K.str)) (0 : Nat) (ByteArray.mk #[(76 : UInt8)]))) (blkC (0 : Nat) (seqC (awp tt E44 A44 (Code.b (Code.b (Code.b (Code.b (Code.b (Func.code Try.f44)))))) (0 : Nat)) (topC tt Try.f44 0 Q)))) p0 p1 = (afun tt E44 A44 Try.f44 (I44 p0 p1) [] Q) := by kernel_rfl
def t44c0x0 (Q : List V1 → List Ob → Prop) (p0 : K.ty k45) (p1 : K.ty (K.slice (4 : TypeId) K.bool)) (m0e2 : List (ByteArray × Bool)) : Prop :=
  Q [V1.one (Lf.bool (mget m0e2 (ByteArray.mk #[(82 : UInt8)]))), V1.one (Lf.int IntKind.i64 (0 : Int))] []
theorem t44c0x0_mono {Q : List V1 → List Ob → Prop} {Q' : List V1 → List Ob → Prop} (hq : ∀ r h, Q r h → Q' r h) (p0 : K.ty k45) (p1 : K.ty (K.slice (4 : TypeId) K.bool)) (m0e2 : List (ByteArray × Bool)) :
    t44c0x0 Q p0 p1 m0e2 → t44c0x0 Q' p0 p1 m0e2 :=
  hq _ _
theorem t44c0x0_eq (Q : List V1 → List Ob → Prop) (p0 : K.ty k45) (p1 : K.ty (K.slice (4 : TypeId) K.bool)) (m0e2 : List (ByteArray × Bool)) :
    t44c0x0 Q p0 p1 m0e2 = ((blkC (0 : Nat) (seqC (awp tt E44 A44 (Code.b (Code.b (Code.b (Code.b (Code.b (Func.code Try.f44)))))) (0 : Nat)) (topC tt Try.f44 0 Q))) (Ex.exit (nat_lit 0)) (X44_0_0 m0e2)) := by kernel_rfl
def H44 (Q : List V1 → List Ob → Prop) (p0 : K.ty k45) (p1 : K.ty (K.slice (4 : TypeId) K.bool)) : Prop := t44 Q (fun p0 p1 => ∃ m, G44_0 (fun m0e2 => t44c0x0 Q p0 p1 m0e2) m (p1) (p0.fst) (p0.snd.fst) (p0.snd.snd.fst) (p0.snd.snd.snd) (mset [] (ByteArray.mk #[(76 : UInt8)]) true) (List.set (List.replicate (1 : Nat) (K.dflt K.str)) (0 : Nat) (ByteArray.mk #[(76 : UInt8)]))) p0 p1
theorem ok44 (Q : List V1 → List Ob → Prop) (p0 : K.ty k45) (p1 : K.ty (K.slice (4 : TypeId) K.bool)) (h : H44 Q p0 p1) : Of (afun tt E44 A44 Try.f44 (I44 p0 p1) [] Q) :=
  kcO (t44_eq Q p0 p1) (t44_mono (fun _ _ h => h) (fun p0 p1 ⟨m, h⟩ => ⟨m, (T44_0 _ (fun m0e2 h => kcO (t44c0x0_eq _ _ _ _) (t44c0x0_mono (fun _ _ h => h) _ _ _ h)) m _ _ _ _ _ _ _ h).out⟩) p0 p1 h)
theorem env44 : EnvOk Try.prog E44 := .nil
theorem mget_mset (l : Live) (k s : ByteArray) : mget (mset l k true) s = (decide (s = k) || mget l s) := by
  induction l with
  | nil => simp [mset, mget, beqB]
  | cons x r ih =>
    obtain ⟨y, v⟩ := x
    simp only [mset, beqB]
    by_cases h : k = y
    · subst h
      simp only [decide_true, cond_true, mget, beqB]
      by_cases h2 : s = k <;> simp [h2]
    · simp only [h, decide_false, cond_false, mget, beqB, ih]
      by_cases h2 : s = y
      · subst h2
        have : ¬ s = k := fun e => h e.symm
        simp [this]
      · simp [h2]
def mu (cs : List Con) (live : Live) : Nat := cs.countP fun c => !mget live c.2.2.2
theorem mu_le (cs : List Con) (live : Live) (k : ByteArray) : mu cs (mset live k true) ≤ mu cs live :=
  List.countP_mono_left fun c _ h => by
    rw [mget_mset] at h
    simp at h ⊢
    exact h.2
theorem mu_set : ∀ {cs : List Con} {c : Con} {live : Live}, c ∈ cs → mget live c.2.2.2 = false → mu cs (mset live c.2.2.2 true) + 1 ≤ mu cs live
  | [], _, _, h, _ => by simp at h
  | d :: r, c, live, h, hf => by
    have hm := mu_le r live c.2.2.2
    unfold mu at hm ⊢
    simp only [List.countP_cons]
    rcases List.mem_cons.1 h with rfl | h
    · have e1 : mget (mset live c.2.2.2 true) c.2.2.2 = true := by rw [mget_mset]; simp
      simp [e1, hf]
      exact hm
    · have ih := mu_set h hf
      unfold mu at ih
      have e1 : (if (!mget (mset live c.2.2.2 true) d.2.2.2) = true then 1 else 0) ≤ (if (!mget live d.2.2.2) = true then 1 else 0) := by
        rw [mget_mset]
        cases mget live d.2.2.2 <;> simp
        split <;> omega
      omega
theorem reachIn_mu (all : List Con) (x : ByteArray) : ∀ (cs : List Con) (on : List Bool) (todo : List ByteArray) (live : Live), (∀ c ∈ cs, c ∈ all) →
    (reachIn x cs on (todo, live)).1.length + mu all (reachIn x cs on (todo, live)).2 ≤ todo.length + mu all live
  | [], _, _, _, _ => Nat.le_refl _
  | _ :: _, [], _, _, _ => Nat.le_refl _
  | c :: cs, o :: on, todo, live, h => by
    simp only [reachIn]
    cases hb : (o && (decide (c.2.2.1 = x) && !mget live c.2.2.2)) with
    | false => exact reachIn_mu all x cs on todo live fun d hd => h d (by simp [hd])
    | true =>
      have hf : mget live c.2.2.2 = false := by
        simp only [Bool.and_eq_true, Bool.not_eq_true'] at hb
        exact hb.2.2
      have h1 := reachIn_mu all x cs on (todo ++ [c.2.2.2]) (mset live c.2.2.2 true) fun d hd => h d (by simp [hd])
      have h2 := mu_set (h c (by simp)) hf
      simp only [cond_true]
      rw [List.length_append, List.length_singleton] at h1
      omega
theorem room9 {n : Nat} (h : n ≤ 1000000000) : room tt 9 n := by
  show n * 16 ≤ 140737488355328; omega
theorem loop44b (cs : List Con) (on : List Bool) (hon : on.length = cs.length) (hl : cs.length ≤ 1000000) (x a : ByteArray) (b : List Con) (c : List Coi) (d : ByteArray) (R0 : List Bool → ByteArray → List Con → List Coi → ByteArray → Live → List ByteArray → Prop) :
    ∀ n k (i : Nat) (todo : List ByteArray) (live : Live), k < n → i + k = cs.length → todo.length + k ≤ 100000000 →
      R0 on a b c d (reachIn x (cs.drop i) (on.drop i) (todo, live)).2 (reachIn x (cs.drop i) (on.drop i) (todo, live)).1 → G44_2 R0 n on x cs cs.length i a b c d live todo := by
  intro n
  induction n with
  | zero => intro k i todo live h; omega
  | succ n ih =>
    intro k i todo live hk hi hb h
    refine brP_intro (fun e => ?_) (fun e => ?_)
    · have e : i < cs.length := by simpa using e
      cases k with
      | zero => omega
      | succ k =>
        rw [getE_cons k74 cs i e, getE_cons .bool on i (by omega)] at h
        simp only [reachIn] at h
        have hw : IntKind.i64.wrap ((i : Int) + 1) = ((i + 1 : Nat) : Int) := by rw [wrap_in (by omega) (by omega)]; omega
        rw [hw]
        have skip : R0 on a b c d (reachIn x (cs.drop (i + 1)) (on.drop (i + 1)) (todo, live)).2 (reachIn x (cs.drop (i + 1)) (on.drop (i + 1)) (todo, live)).1 → G44_2 R0 n on x cs cs.length (i + 1 : Nat) a b c d live todo :=
          ih k (i + 1) todo live (by omega) (by omega) (by omega)
        refine ⟨⟨by omega, by omega⟩, ⟨by omega, by omega⟩, ?_⟩
        refine brP_intro (fun f => ?_) (fun f => ?_)
        · simp only [f, Bool.true_and] at h
          refine brP_intro (fun g => ?_) (fun g => ?_)
          · rw [strEq] at g
            simp only [g, Bool.true_and] at h
            refine brP_intro (fun j => ?_) (fun j => ?_)
            · simp only [j, cond_true] at h
              refine ⟨room9 (by rw [List.length_set, List.length_replicate]; omega), ?_⟩
              exact ih k (i + 1) (todo ++ [(getE k74 cs i).2.2.2]) _ (by omega) (by omega) (by rw [List.length_append, List.length_singleton]; omega) h
            · simp only [j, cond_false] at h
              exact skip h
          · rw [strEq] at g
            simp only [g, Bool.false_and, cond_false] at h
            exact skip h
        · simp only [f, Bool.false_and, cond_false] at h
          exact skip h
    · have e : ¬ i < cs.length := by simpa using e
      rw [List.drop_of_length_le (by omega)] at h
      simpa [reachIn] using h
theorem loop44a (cs : List Con) (on : List Bool) (hon : on.length = cs.length) (hl : cs.length ≤ 1000000) (a : ByteArray) (c : List Coi) (d : ByteArray) (R0 : Live → Prop) :
    ∀ n (todo : List ByteArray) (live : Live), todo.length + mu cs live < n → todo.length + mu cs live ≤ 10000000 → R0 (reachGo cs on n todo live) → G44_0 R0 n on a cs c d live todo := by
  intro n
  induction n with
  | zero => intro todo live h; omega
  | succ n ih =>
    intro todo live hn hb h
    cases todo with
    | nil => exact h
    | cons x todo =>
      refine brP_intro (fun e => ?_) (fun e => by simp at e)
      have hm := reachIn_mu cs x cs on todo live fun _ h => h
      rw [List.length_cons] at hn hb
      refine ⟨⟨by omega, by simp⟩, ⟨by omega, by rw [List.length_cons]; omega, by simp⟩, cs.length + 1, ?_⟩
      refine loop44b cs on hon hl x a cs c d _ _ cs.length 0 todo live (by omega) (by omega) (by omega) ?_
      rw [List.drop_zero, List.drop_zero]
      exact ih _ _ (by omega) (by omega) h
theorem spec44 : SpecOk Try.prog 44 sp44 := S2.ok tt_ok mixed env44 Try.func44 fun (r : Rung) (on : List Bool) Q h => ok44 Q r on <| by
  obtain ⟨hl, h⟩ := h
  unfold conductsR at h
  have hmu : mu r.contacts [(lnode, true)] ≤ r.contacts.length := List.countP_le_length
  refine brP_intro (fun e => ?_) (fun e => ?_)
  · have e : ¬ on.length = r.contacts.length := by
      intro h2
      have h3 : on.length = (Prod.fst (Prod.snd r)).length := h2
      rw [h3] at e
      simp at e
    simp only [e, decide_false, cond_false] at h
    exact h
  · have e : on.length = r.contacts.length := by
      have h3 : ((on.length : Int) = ((Prod.fst (Prod.snd r)).length : Int)) := by simpa using e
      have h4 : on.length = (Prod.fst (Prod.snd r)).length := by omega
      exact h4
    simp only [e, decide_true, cond_true] at h
    refine ⟨r.contacts.length + 2, loop44a r.contacts on e hl _ _ _ _ _ [lnode] [(lnode, true)] ?_ ?_ h⟩
    · rw [List.length_singleton]; omega
    · rw [List.length_singleton]; omega
end Go.AM
namespace Go.AM
open Go.Proofs
def A45 : Ann := [(0, [2, 6, 8, 18, 19, 20], [6, 8], [6, 7])]
def E45 : Env := [(25, sp25s), (60, sp60), (61, sp61)]
def I45 (p0 : (k45 : K).ty) (p1 : (k26 : K).ty) (p2 : (.bool : K).ty) : List V1 := [nfK k45 p0, nfK k26 p1, nfK .bool p2]
noncomputable def L45_0 : Code := Code.a (Code.a (Code.b (Code.a (Code.b (Code.b (Func.code Try.f45))))))
def S45_0 (b2 : Bool) (l18 : List (K.ty k76)) (x19 : Int) (x20 : Int) (lh1_0 : List (K.ty K.bool)) (lh1_1 : List (K.ty K.bool)) (lh1_2 : List (K.ty K.bool)) : St := sp (56 : Nat) [((2 : Nat), V.v (V1.one (Lf.bool b2))), ((6 : Nat), V.v (V1.one (Lf.ptr (nat_lit 0) (nat_lit 0)))), ((8 : Nat), V.v (V1.one (Lf.ptr (nat_lit 1) (nat_lit 0)))), ((18 : Nat), V.v (V1.one (Lf.sl (77 : TypeId) k76 l18))), ((19 : Nat), V.v (V1.one (Lf.int IntKind.i64 x19))), ((20 : Nat), V.v (V1.one (Lf.int IntKind.i64 x20)))] [Ob.box (27 : Nat) [Lf.nils, Lf.nils, Lf.nils], Ob.box (27 : Nat) [Lf.sl (4 : TypeId) K.bool lh1_0, Lf.sl (4 : TypeId) K.bool lh1_1, Lf.sl (4 : TypeId) K.bool lh1_2]]
def X45_0_0 (x7 : Int) : St := sp (56 : Nat) [((6 : Nat), V.v (V1.one (Lf.ptr (nat_lit 0) (nat_lit 0)))), ((7 : Nat), V.v (V1.one (Lf.int IntKind.i64 x7)))] [Ob.box (27 : Nat) [Lf.nils, Lf.nils, Lf.nils]]
def X45_0_1 (lh1_0 : List (K.ty K.bool)) (lh1_1 : List (K.ty K.bool)) (lh1_2 : List (K.ty K.bool)) : St := sp (56 : Nat) [((6 : Nat), V.v (V1.one (Lf.ptr (nat_lit 0) (nat_lit 0)))), ((8 : Nat), V.v (V1.one (Lf.ptr (nat_lit 1) (nat_lit 0))))] [Ob.box (27 : Nat) [Lf.nils, Lf.nils, Lf.nils], Ob.box (27 : Nat) [Lf.sl (4 : TypeId) K.bool lh1_0, Lf.sl (4 : TypeId) K.bool lh1_1, Lf.sl (4 : TypeId) K.bool lh1_2]]
def t45_0 (again : Bool → List (K.ty k76) → Int → Int → List (K.ty K.bool) → List (K.ty K.bool) → List (K.ty K.bool) → Prop) (R0 : Int → Prop) (R1 : List (K.ty K.bool) → List (K.ty K.bool) → List (K.ty K.bool) → Prop) (b2 : Bool) (l18 : List (K.ty k76)) (x19 : Int) (x20 : Int) (lh1_0 : List (K.ty K.bool)) (lh1_1 : List (K.ty K.bool)) (lh1_2 : List (K.ty K.bool)) : Prop :=
  brP (decide (x20 < x19)) (bound x20 (List.length l18) ∧ brP (decide ((getE k76 l18 x20).fst < (0 : Int))) (R0 (8 : Int)) (brP (decide ((getE k76 l18 x20).fst ≥ (4 : Int))) (R0 (8 : Int)) (bound (getE k76 l18 x20).fst (4 : Nat) ∧ small (lh1_0, lh1_1, lh1_2) ∧ brP ((writeS (lh1_0, lh1_1, lh1_2) (getE k76 l18 x20).snd (writes (getE k76 l18 x20).fst b2).fst).snd != (0 : Int)) (R0 (writeS (lh1_0, lh1_1, lh1_2) (getE k76 l18 x20).snd (writes (getE k76 l18 x20).fst b2).fst).snd) (brP (writes (getE k76 l18 x20).fst b2).snd (again b2 l18 x19 (IntKind.wrap IntKind.i64 (x20 + (1 : Int))) (writeS (lh1_0, lh1_1, lh1_2) (getE k76 l18 x20).snd (writes (getE k76 l18 x20).fst b2).fst).fst.fst (writeS (lh1_0, lh1_1, lh1_2) (getE k76 l18 x20).snd (writes (getE k76 l18 x20).fst b2).fst).fst.snd.fst (writeS (lh1_0, lh1_1, lh1_2) (getE k76 l18 x20).snd (writes (getE k76 l18 x20).fst b2).fst).fst.snd.snd) (again b2 l18 x19 (IntKind.wrap IntKind.i64 (x20 + (1 : Int))) lh1_0 lh1_1 lh1_2))))) (R1 lh1_0 lh1_1 lh1_2)
theorem t45_0_mono {again : Bool → List (K.ty k76) → Int → Int → List (K.ty K.bool) → List (K.ty K.bool) → List (K.ty K.bool) → Prop} {R0 : Int → Prop} {R1 : List (K.ty K.bool) → List (K.ty K.bool) → List (K.ty K.bool) → Prop} {again' : Bool → List (K.ty k76) → Int → Int → List (K.ty K.bool) → List (K.ty K.bool) → List (K.ty K.bool) → Prop} {R0' : Int → Prop} {R1' : List (K.ty K.bool) → List (K.ty K.bool) → List (K.ty K.bool) → Prop} (ha : ∀ b2 l18 x19 x20 lh1_0 lh1_1 lh1_2, again b2 l18 x19 x20 lh1_0 lh1_1 lh1_2 → again' b2 l18 x19 x20 lh1_0 lh1_1 lh1_2) (hr0 : ∀ x7, R0 x7 → R0' x7) (hr1 : ∀ lh1_0 lh1_1 lh1_2, R1 lh1_0 lh1_1 lh1_2 → R1' lh1_0 lh1_1 lh1_2) (b2 : Bool) (l18 : List (K.ty k76)) (x19 : Int) (x20 : Int) (lh1_0 : List (K.ty K.bool)) (lh1_1 : List (K.ty K.bool)) (lh1_2 : List (K.ty K.bool)) :
    t45_0 again R0 R1 b2 l18 x19 x20 lh1_0 lh1_1 lh1_2 → t45_0 again' R0' R1' b2 l18 x19 x20 lh1_0 lh1_1 lh1_2 :=
  brM (andM (id) (brM (hr0 _) (brM (hr0 _) (andM (id) (andM (id) (brM (hr0 _) (brM (ha _ _ _ _ _ _ _) (ha _ _ _ _ _ _ _)))))))) (hr1 _ _ _)
theorem t45_0_eq (n : Nat) (Q : Ex → St → Prop) (b2 : Bool) (l18 : List (K.ty k76)) (x19 : Int) (x20 : Int) (lh1_0 : List (K.ty K.bool)) (lh1_1 : List (K.ty K.bool)) (lh1_2 : List (K.ty K.bool)) :
    t45_0 (fun b2 l18 x19 x20 lh1_0 lh1_1 lh1_2 => loopP (awp tt E45 A45 L45_0 0) ([(2 : Nat), (6 : Nat), (8 : Nat), (18 : Nat), (19 : Nat), (20 : Nat)], [(6 : Nat), (8 : Nat)], [(6 : Nat), (7 : Nat)]) n (S45_0 b2 l18 x19 x20 lh1_0 lh1_1 lh1_2) Q) (fun x7 => Q (Ex.ret) (X45_0_0 x7)) (fun lh1_0 lh1_1 lh1_2 => Q (Ex.exit (nat_lit 0)) (X45_0_1 lh1_0 lh1_1 lh1_2)) b2 l18 x19 x20 lh1_0 lh1_1 lh1_2 = (loopP (awp tt E45 A45 L45_0 0) ([(2 : Nat), (6 : Nat), (8 : Nat), (18 : Nat), (19 : Nat), (20 : Nat)], [(6 : Nat), (8 : Nat)], [(6 : Nat), (7 : Nat)]) (n + 1) (S45_0 b2 l18 x19 x20 lh1_0 lh1_1 lh1_2) Q) := by kernel_rfl
def G45_0 (R0 : Int → Prop) (R1 : List (K.ty K.bool) → List (K.ty K.bool) → List (K.ty K.bool) → Prop) : Nat → Bool → List (K.ty k76) → Int → Int → List (K.ty K.bool) → List (K.ty K.bool) → List (K.ty K.bool) → Prop
  | 0, _, _, _, _, _, _, _ => False
  | n + 1, b2, l18, x19, x20, lh1_0, lh1_1, lh1_2 => t45_0 (G45_0 R0 R1 n) R0 R1 b2 l18 x19 x20 lh1_0 lh1_1 lh1_2
theorem T45_0 {R0 : Int → Prop} {R1 : List (K.ty K.bool) → List (K.ty K.bool) → List (K.ty K.bool) → Prop} (Q : Ex → St → Prop) (hr0 : ∀ x7, R0 x7 → Of (Q (Ex.ret) (X45_0_0 x7))) (hr1 : ∀ lh1_0 lh1_1 lh1_2, R1 lh1_0 lh1_1 lh1_2 → Of (Q (Ex.exit (nat_lit 0)) (X45_0_1 lh1_0 lh1_1 lh1_2))) : ∀ (n : Nat) (b2 : Bool) (l18 : List (K.ty k76)) (x19 : Int) (x20 : Int) (lh1_0 : List (K.ty K.bool)) (lh1_1 : List (K.ty K.bool)) (lh1_2 : List (K.ty K.bool)), G45_0 R0 R1 n b2 l18 x19 x20 lh1_0 lh1_1 lh1_2 → Of (loopP (awp tt E45 A45 L45_0 0) ([(2 : Nat), (6 : Nat), (8 : Nat), (18 : Nat), (19 : Nat), (20 : Nat)], [(6 : Nat), (8 : Nat)], [(6 : Nat), (7 : Nat)]) n (S45_0 b2 l18 x19 x20 lh1_0 lh1_1 lh1_2) Q) := by
  intro n
  induction n with
  | zero => intro b2 l18 x19 x20 lh1_0 lh1_1 lh1_2 h; exact h.elim
  | succ n ih =>
    intro b2 l18 x19 x20 lh1_0 lh1_1 lh1_2 h
    exact kcO (t45_0_eq n Q b2 l18 x19 x20 lh1_0 lh1_1 lh1_2) (t45_0_mono (fun _ _ _ _ _ _ _ h => (ih _ _ _ _ _ _ _ h).out) (fun _ h => (hr0 _ h).out) (fun _ _ _ h => (hr1 _ _ _ h).out) b2 l18 x19 x20 lh1_0 lh1_1 lh1_2 h)
def t45 (Q : List V1 → List Ob → Prop) (lp0 : K.ty k45 → K.ty k26 → K.ty K.bool → Prop) (p0 : K.ty k45) (p1 : K.ty k26) (p2 : K.ty K.bool) : Prop :=
  small p1 ∧ lp0 p0 p1 p2
theorem t45_mono {Q : List V1 → List Ob → Prop} {Q' : List V1 → List Ob → Prop} {lp0 : K.ty k45 → K.ty k26 → K.ty K.bool → Prop} {lp0' : K.ty k45 → K.ty k26 → K.ty K.bool → Prop} (hq : ∀ r h, Q r h → Q' r h) (hlp0 : ∀ p0 p1 p2, lp0 p0 p1 p2 → lp0' p0 p1 p2) (p0 : K.ty k45) (p1 : K.ty k26) (p2 : K.ty K.bool) :
    t45 Q lp0 p0 p1 p2 → t45 Q' lp0' p0 p1 p2 :=
  andM (id) (hlp0 _ _ _)
theorem t45_eq (Q : List V1 → List Ob → Prop) (p0 : K.ty k45) (p1 : K.ty k26) (p2 : K.ty K.bool) :
    t45 Q (fun p0 p1 p2 => ∃ m, loopP (awp tt E45 A45 L45_0 0) ([(2 : Nat), (6 : Nat), (8 : Nat), (18 : Nat), (19 : Nat), (20 : Nat)], [(6 : Nat), (8 : Nat)], [(6 : Nat), (7 : Nat)]) m (S45_0 (p2) (p0.snd.snd.fst) ((↑(List.length p0.snd.snd.fst) : Int)) ((0 : Int)) (p1.fst) (p1.snd.fst) (p1.snd.snd)) (blkC (0 : Nat) (seqC (awp tt E45 A45 (Code.b (Code.b (Code.b (Func.code Try.f45)))) (0 : Nat)) (topC tt Try.f45 0 Q)))) p0 p1 p2 = (afun tt E45 A45 Try.f45 (I45 p0 p1 p2) [] Q) := by kernel_rfl
def t45c0x1 (Q : List V1 → List Ob → Prop) (p0 : K.ty k45) (p1 : K.ty k26) (p2 : K.ty K.bool) (lh1_0e3 : List (K.ty K.bool)) (lh1_1e3 : List (K.ty K.bool)) (lh1_2e3 : List (K.ty K.bool)) : Prop :=
  Q [V1.agg [Lf.sl (4 : TypeId) K.bool lh1_0e3, Lf.sl (4 : TypeId) K.bool lh1_1e3, Lf.sl (4 : TypeId) K.bool lh1_2e3], V1.one (Lf.int IntKind.i64 (0 : Int))] []
theorem t45c0x1_mono {Q : List V1 → List Ob → Prop} {Q' : List V1 → List Ob → Prop} (hq : ∀ r h, Q r h → Q' r h) (p0 : K.ty k45) (p1 : K.ty k26) (p2 : K.ty K.bool) (lh1_0e3 : List (K.ty K.bool)) (lh1_1e3 : List (K.ty K.bool)) (lh1_2e3 : List (K.ty K.bool)) :
    t45c0x1 Q p0 p1 p2 lh1_0e3 lh1_1e3 lh1_2e3 → t45c0x1 Q' p0 p1 p2 lh1_0e3 lh1_1e3 lh1_2e3 :=
  hq _ _
theorem t45c0x1_eq (Q : List V1 → List Ob → Prop) (p0 : K.ty k45) (p1 : K.ty k26) (p2 : K.ty K.bool) (lh1_0e3 : List (K.ty K.bool)) (lh1_1e3 : List (K.ty K.bool)) (lh1_2e3 : List (K.ty K.bool)) :
    t45c0x1 Q p0 p1 p2 lh1_0e3 lh1_1e3 lh1_2e3 = ((blkC (0 : Nat) (seqC (awp tt E45 A45 (Code.b (Code.b (Code.b (Func.code Try.f45)))) (0 : Nat)) (topC tt Try.f45 0 Q))) (Ex.exit (nat_lit 0)) (X45_0_1 lh1_0e3 lh1_1e3 lh1_2e3)) := by kernel_rfl
def t45c0x0 (Q : List V1 → List Ob → Prop) (p0 : K.ty k45) (p1 : K.ty k26) (p2 : K.ty K.bool) (x7e3 : Int) : Prop :=
  Q [V1.agg [Lf.nils, Lf.nils, Lf.nils], V1.one (Lf.int IntKind.i64 x7e3)] []
theorem t45c0x0_mono {Q : List V1 → List Ob → Prop} {Q' : List V1 → List Ob → Prop} (hq : ∀ r h, Q r h → Q' r h) (p0 : K.ty k45) (p1 : K.ty k26) (p2 : K.ty K.bool) (x7e3 : Int) :
    t45c0x0 Q p0 p1 p2 x7e3 → t45c0x0 Q' p0 p1 p2 x7e3 :=
  hq _ _
theorem t45c0x0_eq (Q : List V1 → List Ob → Prop) (p0 : K.ty k45) (p1 : K.ty k26) (p2 : K.ty K.bool) (x7e3 : Int) :
    t45c0x0 Q p0 p1 p2 x7e3 = ((blkC (0 : Nat) (seqC (awp tt E45 A45 (Code.b (Code.b (Code.b (Func.code Try.f45)))) (0 : Nat)) (topC tt Try.f45 0 Q))) (Ex.ret) (X45_0_0 x7e3)) := by kernel_rfl
def H45 (Q : List V1 → List Ob → Prop) (p0 : K.ty k45) (p1 : K.ty k26) (p2 : K.ty K.bool) : Prop := t45 Q (fun p0 p1 p2 => ∃ m, G45_0 (fun x7e3 => t45c0x0 Q p0 p1 p2 x7e3) (fun lh1_0e3 lh1_1e3 lh1_2e3 => t45c0x1 Q p0 p1 p2 lh1_0e3 lh1_1e3 lh1_2e3) m (p2) (p0.snd.snd.fst) ((↑(List.length p0.snd.snd.fst) : Int)) ((0 : Int)) (p1.fst) (p1.snd.fst) (p1.snd.snd)) p0 p1 p2
theorem ok45 (Q : List V1 → List Ob → Prop) (p0 : K.ty k45) (p1 : K.ty k26) (p2 : K.ty K.bool) (h : H45 Q p0 p1 p2) : Of (afun tt E45 A45 Try.f45 (I45 p0 p1 p2) [] Q) :=
  kcO (t45_eq Q p0 p1 p2) (t45_mono (fun _ _ h => h) (fun p0 p1 p2 ⟨m, h⟩ => ⟨m, (T45_0 _ (fun x7e3 h => kcO (t45c0x0_eq _ _ _ _ _) (t45c0x0_mono (fun _ _ h => h) _ _ _ _ h)) (fun lh1_0e3 lh1_1e3 lh1_2e3 h => kcO (t45c0x1_eq _ _ _ _ _ _ _) (t45c0x1_mono (fun _ _ h => h) _ _ _ _ _ _ h)) m _ _ _ _ _ _ _ h).out⟩) p0 p1 p2 h)
theorem env45 : EnvOk Try.prog E45 := .cons spec25s (by kernel_rfl) <| .cons spec60 (by kernel_rfl) <| .cons spec61 (by kernel_rfl) <| .nil
theorem setI_len (l : List Bool) (n : Int) (v : Bool) : (setI l n v).1.length ≤ l.length := by
  unfold setI; cases isIn l.length n <;> simp
theorem small_zero : small zeroS := ⟨by simp, by simp, by simp⟩
theorem small_write {s : Sta} (h : small s) (a : k72.ty) (v : Bool) : small (writeS s a v).1 := by
  have h1 := setI_len s.1 a.2 v
  have h2 := setI_len s.2.1 a.2 v
  unfold writeS
  cases a.1 == 1 <;> cases (setI s.1 a.2 v).2 != 0 <;> cases a.1 == 2 <;> cases (setI s.2.1 a.2 v).2 != 0 <;>
    simp only [cond_true, cond_false] <;> first | exact small_zero | exact ⟨Nat.le_trans h1 h.1, h.2.1, h.2.2⟩ | exact ⟨h.1, Nat.le_trans h2 h.2.1, h.2.2⟩
theorem loop45 (on : Bool) (cs : List Coi) (R0 : Int → Prop) (R1 : List Bool → List Bool → List Bool → Prop) (hl : cs.length ≤ 1000000) :
    ∀ n k (i : Nat) (s : Sta), k < n → i + k = cs.length → small s →
      ((coilGo on (cs.drop i) s).2 ≠ 0 → R0 (coilGo on (cs.drop i) s).2) →
      ((coilGo on (cs.drop i) s).2 = 0 → R1 (coilGo on (cs.drop i) s).1.1 (coilGo on (cs.drop i) s).1.2.1 (coilGo on (cs.drop i) s).1.2.2) →
      G45_0 R0 R1 n on cs cs.length i s.1 s.2.1 s.2.2 := by
  intro n
  induction n with
  | zero => intro k i s h; omega
  | succ n ih =>
    intro k i s hk hi hs h0 h1
    refine brP_intro (fun d => ?_) (fun d => ?_)
    · have d : i < cs.length := by simpa using d
      cases k with
      | zero => omega
      | succ k =>
        rw [getE_cons k76 cs i d] at h0 h1
        simp only [coilGo] at h0 h1
        refine ⟨⟨by omega, by omega⟩, ?_⟩
        refine brP_intro (fun a => ?_) (fun a => ?_)
        · simp only [a, cond_true] at h0; exact h0 (by decide)
        refine brP_intro (fun b => ?_) (fun b => ?_)
        · simp only [a, b, cond_true, cond_false] at h0; exact h0 (by decide)
        simp only [a, b, cond_false] at h0 h1
        have hkind : bound (getE k76 cs i).1 4 := by
          have a' : ¬ (getE k76 cs i).1 < (0 : Int) := by simpa using a
          have b' : ¬ (getE k76 cs i).1 ≥ (4 : Int) := by simpa using b
          exact ⟨Int.not_lt.1 a', Int.not_le.1 b'⟩
        refine ⟨hkind, hs, ?_⟩
        refine brP_intro (fun c => ?_) (fun c => ?_)
        · have c : ((writeS s (getE k76 cs i).2 (writes (getE k76 cs i).1 on).1).2 != 0) = true := c
          simp only [c, cond_true] at h0; exact h0 (by simpa using c)
        have c : ((writeS s (getE k76 cs i).2 (writes (getE k76 cs i).1 on).1).2 != 0) = false := c
        simp only [c, cond_false] at h0 h1
        have hw : IntKind.i64.wrap ((i : Int) + 1) = ((i + 1 : Nat) : Int) := by rw [wrap_in (by omega) (by omega)]; omega
        rw [hw]
        refine brP_intro (fun f => ?_) (fun f => ?_)
        · simp only [f, cond_true] at h0 h1
          exact ih k (i + 1) (writeS s (getE k76 cs i).2 (writes (getE k76 cs i).1 on).1).1 (by omega) (by omega) (small_write hs _ _) h0 h1
        · simp only [f, cond_false] at h0 h1
          exact ih k (i + 1) s (by omega) (by omega) hs h0 h1
    · have d : ¬ i < cs.length := by simpa using d
      obtain rfl : k = 0 := by omega
      rw [List.drop_of_length_le (by omega)] at h1
      exact h1 rfl
theorem coilGo_zero (on : Bool) : ∀ (cs : List Coi) (s : Sta), (coilGo on cs s).2 ≠ 0 → (coilGo on cs s).1 = zeroS
  | [], s, h => absurd rfl h
  | c :: r, s, h => by
    simp only [coilGo] at h ⊢
    cases h1 : decide (c.1 < 0) with
    | true => simp only [h1, cond_true]
    | false =>
      cases h2 : decide (c.1 ≥ 4) with
      | true => simp only [h1, h2, cond_true, cond_false]
      | false =>
        cases h3 : (writeS s c.2 (writes c.1 on).1).2 != 0 with
        | true => simp only [h1, h2, h3, cond_true, cond_false]
        | false =>
          simp only [h1, h2, h3, cond_false] at h ⊢
          exact coilGo_zero on r _ h
theorem spec45 : SpecOk Try.prog 45 sp45 := S3.okS tt_ok mixed [k26, ki] env45 Try.func45 fun (r : Rung) (st : Sta) (on : Bool) Q h => ok45 _ r st on <| by
  obtain ⟨⟨hs, hl⟩, h⟩ := h
  have hlen := loop45 on r.coils (fun x => t45c0x0 (SQ [k26, ki] Q) r st on x) (fun a b c => t45c0x1 (SQ [k26, ki] Q) r st on a b c) hl (r.coils.length + 1) r.coils.length 0 st
    (by omega) (by omega) hs (fun h0 => ?_) (fun h0 => ?_)
  · exact ⟨hs, _, hlen⟩
  · rw [List.drop_zero] at h0 ⊢
    rw [coilGo_zero on _ _ h0] at h
    exact h
  · rw [List.drop_zero] at h0 ⊢
    rw [h0] at h
    exact h
end Go.AM
namespace Go.AM
open Go.Proofs
-- f27 "busbar/rungeval.Scan" ['46', '25', '27', '3'] -> ['27', '4', '32']
def A27 : Ann := []
def E27 : Env := [(43, sp43), (44, sp44), (45, sp45)]
def I27 (p0 : (k45 : K).ty) (p1 : ((.slice 4 .bool) : K).ty) (p2 : (k26 : K).ty) (p3 : ((.int .i64) : K).ty) : List V1 := [nfK k45 p0, nfK (.slice 4 .bool) p1, nfK k26 p2, nfK (.int .i64) p3]
def t27 (Q : List V1 → List Ob → Prop) (p0 : K.ty k45) (p1 : K.ty (K.slice (4 : TypeId) K.bool)) (p2 : K.ty k26) (p3 : K.ty (K.int IntKind.i64)) : Prop :=
  (small p2 ∧ List.length (Rung.contacts p0) ≤ (1000000 : Nat)) ∧ brP ((contactsR p0 p1 p2 p3).snd.snd != (0 : Int)) (Q [V1.agg [Lf.nils, Lf.nils, Lf.nils], V1.one (Lf.bool false), V1.one (Lf.int IntKind.i64 (contactsR p0 p1 p2 p3).snd.snd)] []) (List.length (Rung.contacts p0) ≤ (1000000 : Nat) ∧ brP ((conductsR p0 (contactsR p0 p1 p2 p3).fst).snd != (0 : Int)) (Q [V1.agg [Lf.nils, Lf.nils, Lf.nils], V1.one (Lf.bool false), V1.one (Lf.int IntKind.i64 (conductsR p0 (contactsR p0 p1 p2 p3).fst).snd)] []) ((small (contactsR p0 p1 p2 p3).snd.fst ∧ List.length (Rung.coils p0) ≤ (1000000 : Nat)) ∧ brP ((coilGo (conductsR p0 (contactsR p0 p1 p2 p3).fst).fst (Rung.coils p0) (contactsR p0 p1 p2 p3).snd.fst).snd != (0 : Int)) (Q [V1.agg [Lf.nils, Lf.nils, Lf.nils], V1.one (Lf.bool false), V1.one (Lf.int IntKind.i64 (coilGo (conductsR p0 (contactsR p0 p1 p2 p3).fst).fst (Rung.coils p0) (contactsR p0 p1 p2 p3).snd.fst).snd)] []) (Q [V1.agg [Lf.sl (4 : TypeId) K.bool (coilGo (conductsR p0 (contactsR p0 p1 p2 p3).fst).fst (Rung.coils p0) (contactsR p0 p1 p2 p3).snd.fst).fst.fst, Lf.sl (4 : TypeId) K.bool (coilGo (conductsR p0 (contactsR p0 p1 p2 p3).fst).fst (Rung.coils p0) (contactsR p0 p1 p2 p3).snd.fst).fst.snd.fst, Lf.sl (4 : TypeId) K.bool (coilGo (conductsR p0 (contactsR p0 p1 p2 p3).fst).fst (Rung.coils p0) (contactsR p0 p1 p2 p3).snd.fst).fst.snd.snd], V1.one (Lf.bool (conductsR p0 (contactsR p0 p1 p2 p3).fst).fst), V1.one (Lf.int IntKind.i64 (0 : Int))] [])))
theorem t27_mono {Q : List V1 → List Ob → Prop} {Q' : List V1 → List Ob → Prop} (hq : ∀ r h, Q r h → Q' r h) (p0 : K.ty k45) (p1 : K.ty (K.slice (4 : TypeId) K.bool)) (p2 : K.ty k26) (p3 : K.ty (K.int IntKind.i64)) :
    t27 Q p0 p1 p2 p3 → t27 Q' p0 p1 p2 p3 :=
  andM (andM (id) (id)) (brM (hq _ _) (andM (id) (brM (hq _ _) (andM (andM (id) (id)) (brM (hq _ _) (hq _ _))))))
theorem t27_eq (Q : List V1 → List Ob → Prop) (p0 : K.ty k45) (p1 : K.ty (K.slice (4 : TypeId) K.bool)) (p2 : K.ty k26) (p3 : K.ty (K.int IntKind.i64)) :
    t27 Q p0 p1 p2 p3 = (afun tt E27 A27 Try.f27 (I27 p0 p1 p2 p3) [] Q) := by kernel_rfl
def H27 (Q : List V1 → List Ob → Prop) (p0 : K.ty k45) (p1 : K.ty (K.slice (4 : TypeId) K.bool)) (p2 : K.ty k26) (p3 : K.ty (K.int IntKind.i64)) : Prop := t27 Q p0 p1 p2 p3
theorem ok27 (Q : List V1 → List Ob → Prop) (p0 : K.ty k45) (p1 : K.ty (K.slice (4 : TypeId) K.bool)) (p2 : K.ty k26) (p3 : K.ty (K.int IntKind.i64)) (h : H27 Q p0 p1 p2 p3) : Of (afun tt E27 A27 Try.f27 (I27 p0 p1 p2 p3) [] Q) :=
  kcO (t27_eq Q p0 p1 p2 p3) (t27_mono (fun _ _ h => h) p0 p1 p2 p3 h)
theorem env27 : EnvOk Try.prog E27 := .cons spec43 (by kernel_rfl) <| .cons spec44 (by kernel_rfl) <| .cons spec45 (by kernel_rfl) <| .nil
theorem conGo_len (inp : List Bool) (st : Sta) : ∀ (cs : List Con) (slot : Int) (e on : List Bool), (conGo inp st cs slot e on).2.1.length ≤ e.length
  | [], slot, e, on => Nat.le_refl _
  | c :: r, slot, e, on => by
    simp only [conGo]
    cases decide (c.1 < 0) <;> cases decide (c.1 ≥ 4) <;> cases (readS inp st c.2.1).2 != 0 <;> cases isEdge c <;> cases decide (slot < 0) <;> cases decide (slot ≥ (e.length : Int)) <;>
      simp only [cond_true, cond_false] <;> first
        | exact Nat.zero_le _
        | exact conGo_len inp st r slot e _
        | exact Nat.le_trans (conGo_len inp st r _ _ _) (by rw [List.length_set]; exact Nat.le_refl _)
theorem small_contacts {st : Sta} (h : small st) (r : Rung) (inp : List Bool) (slot : Int) : small (contactsR r inp st slot).2.1 := by
  have := conGo_len inp st r.contacts slot st.2.2 []
  unfold contactsR
  cases (conGo inp st r.contacts slot st.2.2 []).2.2 != 0 with
  | true => exact small_zero
  | false => exact ⟨h.1, h.2.1, Nat.le_trans this h.2.2⟩
theorem spec27 : SpecOk Try.prog 27 sp27 := S4.okS tt_ok mixed [k26, .bool, ki] env27 Try.func27 fun (r : Rung) (inp : List Bool) (st : Sta) (slot : Int) Q h => ok27 _ r inp st slot <| by
  obtain ⟨⟨hs, hc, hk⟩, h⟩ := h
  unfold scanR at h
  refine ⟨⟨hs, hc⟩, ?_⟩
  refine brP_intro (fun a => by simp only [a, cond_true] at h; exact h) (fun a => ⟨hc, ?_⟩)
  refine brP_intro (fun b => by simp only [a, b, cond_true, cond_false] at h; exact h) (fun b => ⟨⟨small_contacts hs r inp slot, hk⟩, ?_⟩)
  refine brP_intro (fun c => by simp only [a, b, c, cond_true, cond_false] at h; exact h) (fun c => by simp only [a, b, c, cond_false] at h; exact h)
end Go.AM
namespace Go.AM
open Go.Proofs
def hpG (l : Lad) (inp : List Bool) (st0 : Sta) (r1 r2 r3 : List Lf) (bases : List Int) (s : Sta) (on : Bool) (did : List Bool) : List Ob :=
  [.box 24 (leaves k23 l), .box 25 [.sl 4 .bool inp], .box 27 (leaves k26 st0), .box 27 r1, .box 25 r2, .box 32 r3, .box 40 [.sl 3 (.int .i64) bases], .box 27 (leaves k26 s), .box 25 [.own 10], .box 4 [.bool on], .row 4 .bool did]
def mo41 (u : List Value) (g l' : Nat) (oD oL : Obj) (l : Lad) : List Ob :=
  [.box 24 (leaves k23 l), .box 64 [.ptr 9 0], .frame u (spl 88 0 (sl11 ++ [(62, .v (.one (.clo 41 [.id 11, .id 12])))])), .raw g oD, .raw l' oL]
/-- The scan has found a fault: its result. -/
def sr11 (e : Int) : St := sp 88 [(6, .v (.one (.ptr 0 0))), (7, .v (.one (.ptr 1 0))), (8, .v (.one (.ptr 2 0)))] [.box 27 [.nils, .nils, .nils], .box 25 [.nils], .box 32 [.int .i64 e]]
theorem pre11_eq (Q : Ex → St → Prop) (l : Lad) (inp : List Bool) (st : Sta) :
    brP ((checkL l).2 != 0) (Q .ret (sr11 (checkL l).2)) ((l.rungs.length ≤ 1000 ∧ ∀ r ∈ l.rungs, (Rung.contacts r).length ≤ 1000000) ∧
      brP ((inp.length : Int) != l.1) (Q .ret (sr11 2)) (bound (l.rungs.length : Int) (basesFrom 0 l.rungs).length ∧
        brP (!fits (l.1, l.2.1, l.2.2.1, getE (.int .i64) (basesFrom 0 l.rungs) (l.rungs.length : Int)) st) (Q .ret (sr11 2)) (small st ∧
          ((0 : Int) ≤ (l.rungs.length : Int) ∧ (l.rungs.length : Int) ≤ (l.rungs.length : Int) ∧ (l.rungs.length : Int) ≤ 17592186044416) ∧ room tt 4 (Int.toNat (l.rungs.length : Int)) ∧
            Q .normal (sp 88 sl11 (hp11 l inp st (basesFrom 0 l.rungs) st false (List.replicate (Int.toNat (l.rungs.length : Int)) (K.dflt .bool))))))) = Pre11 Q l inp st := by kernel_rfl
theorem inl26_eq (Q : List V1 → List Ob → Prop) (u : List Value) (l : Lad) (inp : List Bool) (st0 : Sta) (bases : List Int) (s : Sta) (did : List Bool) :
    Q [.one (.clo 41 [.id 12, .id 13])] (hp11 l inp st0 bases s false did ++ [.frame u (spl 88 0 (sl11 ++ [(61, .v (nfK k23 l))]))] ++ [.box 24 (leaves k23 l), .box 64 [.ptr 9 0]]) = Inl26 Q u l inp st0 bases s did := by kernel_rfl
theorem head41_eq (Q : Ex → St → Prop) (u : List Value) (g l' : Nat) (oD oL : Obj) (l : Lad) (inp : List Bool) (st0 : Sta) (bases : List Int) (s : Sta) (on : Bool) (did : List Bool) (i : Int) :
    brP (decide (i < (l.rungs.length : Int))) (bound i l.rungs.length ∧ Q .normal (sty u g l' oD oL l inp st0 bases s on did (getE k45 l.rungs i) i)) (Q (.exit 0) (st41 u g l' oD oL l inp st0 bases s on did i)) = Head41 Q u g l' oD oL l inp st0 bases s on did i := by kernel_rfl
def rx11 (R0 R1 : St → Prop) (tm : List Value) (oR oB oDn : Obj) (u : List Value) (g l' : Nat) (oD : Obj) (l : Lad) (inp : List Bool) (st0 : Sta) (bases : List Int) (s : Sta) (on : Bool) (did : List Bool) (r : Rung) (i : Int) : Prop :=
  (small s ∧ (Rung.contacts r).length ≤ 1000000 ∧ (Rung.coils r).length ≤ 1000000) ∧
      brP ((scanR r inp s (getE (.int .i64) bases i)).2.2 != 0)
        ((l' = l' ∧ oB = oB) ∧ tm = tm ∧ R1 (sp 34 (sy41 l' r i) (hpG l inp st0 [.nils, .nils, .nils] [.nils] [.int .i64 (scanR r inp s (getE (.int .i64) bases i)).2.2] bases s on (did.set i.toNat true) ++ mo41 u g l' oD oDn l ++ [.box 46 (leaves k45 r)])))
        ((l' = l' ∧ oB = oB) ∧ tm = tm ∧ R0 (sty u g l' oD oR l inp st0 bases (scanR r inp s (getE (.int .i64) bases i)).1 (scanR r inp s (getE (.int .i64) bases i)).2.1 (did.set i.toNat true) r i))
theorem round11_eq (R0 R1 : St → Prop) (tm : List Value) (oR oB oDn : Obj) (u : List Value) (g l' : Nat) (oD : Obj) (l : Lad) (inp : List Bool) (st0 : Sta) (bases : List Int) (s : Sta) (on : Bool) (did : List Bool) (r : Rung) (i : Int) :
    ((l' = l' ∧ oR = oR) ∧ bound i did.length ∧ bound i bases.length ∧ rx11 R0 R1 tm oR oB oDn u g l' oD l inp st0 bases s on did r i ∧ rx11 R0 R1 tm oR oB oDn u g l' oD l inp st0 bases s on did r i) =
    Round11 R0 R1 tm oR oB oDn u g l' oD l inp st0 bases s on did r i := by kernel_rfl
theorem tail41_eq (Q : Ex → St → Prop) (u : List Value) (g l' : Nat) (oD oL : Obj) (l : Lad) (inp : List Bool) (st0 : Sta) (bases : List Int) (s : Sta) (on : Bool) (did : List Bool) (r : Rung) (i : Int) :
    brP on (brP (ByteArray.toList r.2.2.2 != ByteArray.toList (ByteArray.mk #[])) (bound i l.rungs.length ∧ l.rungs.length ≤ 1000000 ∧ Q .normal (st41 u g l' oD oL l inp st0 bases s on did (behind l i)))
      (Q .normal (st41 u g l' oD oL l inp st0 bases s on did (IntKind.i64.wrap (i + 1))))) (Q .normal (st41 u g l' oD oL l inp st0 bases s on did (IntKind.i64.wrap (i + 1)))) = Tail41 Q u g l' oD oL l inp st0 bases s on did r i := by kernel_rfl
noncomputable def TailR41 (Q : St → Prop) (u : List Value) (g l' : Nat) (oD oL : Obj) (l : Lad) (inp : List Bool) (st0 : Sta) (e : Int) (bases : List Int) (s : Sta) (on : Bool) (did : List Bool) (r : Rung) (i : Int) : Prop :=
  opsK tt E41 ops41.toList (ops41.toList.drop 4) (sp 34 (sy41 l' r i ++ [(19, .v (.one (.bool false)))]) (hpG l inp st0 [.nils, .nils, .nils] [.nils] [.int .i64 e] bases s on did ++ mo41 u g l' oD oL l ++ [.box 46 (leaves k45 r)])) fun s => awp tt E41 [] (Code.b y41) 1 s fun ex s => match ex with
    | .ret => dropK [0] L16 s Q
    | _ => False
theorem tailR41_eq (Q : St → Prop) (u : List Value) (g l' : Nat) (oD oL : Obj) (l : Lad) (inp : List Bool) (st0 : Sta) (e : Int) (bases : List Int) (s : Sta) (on : Bool) (did : List Bool) (r : Rung) (i : Int) :
    Q (sp 34 [(0, .v (.one (.yld l')))] (hpG l inp st0 [.nils, .nils, .nils] [.nils] [.int .i64 e] bases s on did ++ mo41 u g l' oD oL l)) = TailR41 Q u g l' oD oL l inp st0 e bases s on did r i := by kernel_rfl
/-- The scan's results. -/
def sk11 : List (Nat × V) := [(6, .v (.one (.ptr 3 0))), (7, .v (.one (.ptr 4 0))), (8, .v (.one (.ptr 5 0)))]
theorem post11_eq (Q : Ex → St → Prop) (u : List Value) (g l' : Nat) (oD oL : Obj) (l : Lad) (inp : List Bool) (st0 : Sta) (bases : List Int) (s : Sta) (on : Bool) (did : List Bool) :
    (Q .ret (sp 88 sk11 (hpG l inp st0 (leaves k26 s) [.own 10] [.int .i64 0] bases s on did ++ mo41 u g l' oD oL l)) ∧ Q .ret (sp 88 sk11 (hpG l inp st0 (leaves k26 s) [.own 10] [.int .i64 0] bases s on did ++ mo41 u g l' oD oL l))) =
    Post11 Q u g l' oD oL l inp st0 bases s on did := by kernel_rfl
end Go.AM
namespace Go.AM
open Go.RowKit Go.Proofs
noncomputable def o41 : Oper := (ops41.toList[3]?).getD default
theorem lp41_eq : lp41 = .seq x41 (.block 1 b41) := by kernel_rfl
theorem b41_eq : b41 = .seq r41 (.seq (.seq (.region 3 ops41 false) (Code.b y41)) t41) := by kernel_rfl
theorem c41_eq : c41 = .seq (Code.a c41) (.block 0 (.loop lp41)) := by kernel_rfl
theorem z11_eq : z11 = .seq (.seq (Code.a (Code.a z11)) (.block 0 (.rangeFunc (.tmp 62) #[63, 64] as11 bd11))) post11 := by kernel_rfl
theorem c11_eq : c11 = seqL pre11 z11 := by kernel_rfl
theorem ops41_eq : ops41.toList = ops41.toList.take 3 ++ (o41 :: ops41.toList.drop 4) := by kernel_rfl
theorem o41_guard : o41.guard = none := by kernel_rfl
theorem o41_dst : o41.dst = some 19 := by kernel_rfl
noncomputable def call41 : Call := match o41.op with | .call c => c | _ => default
theorem o41_op : o41.op = .call call41 := by kernel_rfl
theorem call41_callee : call41.callee = .value (.tmp 16) := by kernel_rfl
theorem call41_args : call41.args = #[.tmp 17, .tmp 18] := by kernel_rfl
section
variable {w w0 : World} {B Ok0 Ok : Nat → Prop} {β : List Value} {st : St} {tm : List Value}
theorem dropK_sound {keep L : List Nat} {R : St → Prop} (r : Rel B Ok0 w0 w Ok β st tm) (h : dropK keep L st R) : ∃ s' β', R s' ∧ Rel B Ok0 w0 w Ok β' s' tm := by
  unfold dropK at h
  obtain ⟨hn, h⟩ := ifK_iff h
  obtain ⟨h', hr, h⟩ := someK_iff h
  rw [stK_eq] at h
  have r1 : Rel B Ok0 w0 w Ok β ⟨keepFrom keep 0 st.slots, st.heap⟩ tm := r.withSlots (keep_rel r.s.s)
  obtain ⟨β', r2⟩ := r1.ren hn hr
  exact ⟨_, β', h, r2⟩
end
theorem tailR41_self (u : List Value) (g l' : Nat) (oD oL : Obj) (l : Lad) (inp : List Bool) (st0 : Sta) (e : Int) (bases : List Int) (s : Sta) (on : Bool) (did : List Bool) (r : Rung) (i : Int) :
    TailR41 (fun x => x = sp 34 [(0, .v (.one (.yld l')))] (hpG l inp st0 [.nils, .nils, .nils] [.nils] [.int .i64 e] bases s on did ++ mo41 u g l' oD oL l)) u g l' oD oL l inp st0 e bases s on did r i ∧ True := by
  rw [← tailR41_eq]
  exact ⟨rfl, trivial⟩
theorem env41 : EnvOk Try.prog E41 := .cons spec42 (by kernel_rfl) .nil
theorem env11 : EnvOk Try.prog E11 := .cons spec16 (by kernel_rfl) <| .cons spec23 (by kernel_rfl) <| .cons spec24 (by kernel_rfl) <| .cons spec25s (by kernel_rfl) <| .cons spec27 (by kernel_rfl) <| .nil
/-! ### what a valid ladder promises -/
theorem chk1_none {s : k59.ty} {l : List Rung} : ∀ {k i : Nat}, chk1 s l i k = none → ∀ j, i ≤ j → j < i + k → rungE s (l.take j) (getE k45 l j) = 0
  | 0, i, _, j, h1, h2 => by omega
  | k + 1, i, h, j, h1, h2 => by
    simp only [chk1] at h
    cases hc : (rungE s (l.take i) (getE k45 l i) != 0) with
    | true => rw [hc] at h; cases h
    | false =>
      rw [hc] at h
      by_cases e : j = i
      · subst e; simpa using hc
      · exact chk1_none h j (by omega) (by omega)
theorem chk1_some {s : k59.ty} {l : List Rung} : ∀ {k i : Nat} {x : Int × Int}, chk1 s l i k = some x → x.2 ≠ 0
  | 0, i, _, h => by cases h
  | k + 1, i, x, h => by
    simp only [chk1] at h
    cases hc : (rungE s (l.take i) (getE k45 l i) != 0) with
    | true => rw [hc] at h; cases h; simpa using hc
    | false => rw [hc] at h; exact chk1_some h
theorem chk2_none {l : List Rung} : ∀ {k i : Nat}, chk2 l i k = none → ∀ j, i ≤ j → j < i + k → Rung.jump (getE k45 l j) ≠ str0 → found l j = true
  | 0, i, _, j, h1, h2, _ => by omega
  | k + 1, i, h, j, h1, h2, hj => by
    simp only [chk2] at h
    cases hc : (!decide (Rung.jump (getE k45 l i) = str0) && !found l i) with
    | true => rw [hc] at h; cases h
    | false =>
      rw [hc] at h
      by_cases e : j = i
      · subst e; simp [hj] at hc; exact hc
      · exact chk2_none h j (by omega) (by omega) hj
theorem chk2_some {l : List Rung} : ∀ {k i : Nat} {x : Int × Int}, chk2 l i k = some x → x.2 ≠ 0
  | 0, i, _, h => by cases h
  | k + 1, i, x, h => by
    simp only [chk2] at h
    cases hc : (!decide (Rung.jump (getE k45 l i) = str0) && !found l i) with
    | true => rw [hc] at h; cases h; show (15 : Int) ≠ 0; decide
    | false => rw [hc] at h; exact chk2_some h
theorem rungE_small {s : k59.ty} {a : List Rung} {r : Rung} (h : rungE s a r = 0) : r.contacts.length ≤ 256 ∧ r.coils.length ≤ 16 := by
  unfold rungE at h
  cases h1 : (!decide (r.label = str0) && !isName r.label) with
  | true => simp [h1] at h
  | false =>
    cases h2 : (!decide (r.label = str0) && decide (0 ≤ idxP (fun x => decide (Rung.label x = r.label)) a 0)) with
    | true => simp [h1, h2] at h
    | false =>
      simp only [h1, h2, cond_false] at h
      unfold rungE2 at h
      cases h3 : decide (r.contacts.length > 256) with
      | true => simp [h3] at h
      | false =>
        cases h4 : (consE s r.contacts != 0) with
        | true =>
          simp only [h3, h4, cond_true, cond_false] at h
          rw [h] at h4; cases h4
        | false =>
          cases h5 : decide (r.coils.length > 16) with
          | true => simp [h3, h4, h5] at h
          | false =>
            have a3 : ¬ r.contacts.length > 256 := by simpa using h3
            have a5 : ¬ r.coils.length > 16 := by simpa using h5
            omega
structure Valid (l : Lad) : Prop where
  len : l.rungs.length ≤ 64
  rung : ∀ i < l.rungs.length, (Rung.contacts (getE k45 l.rungs i)).length ≤ 256 ∧ (Rung.coils (getE k45 l.rungs i)).length ≤ 16
  jump : ∀ i < l.rungs.length, jumpAt l i ≠ str0 → (i : Int) < behind l i ∧ behind l i < l.rungs.length
theorem valid_of {l : Lad} (h : (checkL l).2 = 0) : Valid l := by
  unfold checkL at h
  cases h1 : (checkSize (sizesOf l) != 0) with
  | true => simp [h1] at h
  | false =>
    cases h2 : decide (l.rungs.length > 64) with
    | true => simp [h1, h2] at h
    | false =>
      simp only [h1, h2, cond_false] at h
      have hl : ¬ l.rungs.length > 64 := by simpa using h2
      cases h3 : chk1 (sizesOf l) l.rungs 0 l.rungs.length with
      | some x => rw [h3] at h; exact absurd h (chk1_some h3)
      | none =>
        rw [h3] at h
        simp only at h
        cases h4 : chk2 l.rungs 0 l.rungs.length with
        | some x => rw [h4] at h; exact absurd h (chk2_some h4)
        | none =>
          refine ⟨by omega, fun i hi => rungE_small (chk1_none h3 i (by omega) (by omega)), fun i hi hj => ?_⟩
          have hf := chk2_none h4 i (by omega) (by omega) hj
          unfold found at hf
          have hf : 0 ≤ idxP (fun r => decide (Rung.label r = jumpAt l i)) (l.rungs.drop (i + 1)) 0 := of_decide_eq_true hf
          have hb := idxP_bounds (fun r => decide (Rung.label r = jumpAt l i)) (l.rungs.drop (i + 1)) 0
          rw [List.length_drop] at hb
          have e : ((i : Int) + 1).toNat = i + 1 := by omega
          unfold behind
          rw [e]
          omega
theorem Valid.wide {l : Lad} (h : Valid l) : l.rungs.length ≤ 1000 ∧ ∀ r ∈ l.rungs, (Rung.contacts r).length ≤ 1000000 := by
  refine ⟨Nat.le_trans h.len (by omega), fun r hr => ?_⟩
  obtain ⟨i, hi, e⟩ := List.getElem_of_mem hr
  have h2 : getE k45 l.rungs i = r := by rw [← e]; simp [getE, List.getD, hi]
  have := (h.rung i hi).1
  rw [h2] at this
  omega
/-! ### one round after the other -/
/-- What the scan comes to: its own state at the loop's end. -/
def endOk (l : Lad) (inp : List Bool) (st0 : Sta) (bases : List Int) (fin : Sta × List Bool × Int) (B Ok0 : Nat → Prop) (w0 : World) (u : List Value) (g l' : Nat) (oD oR : Obj) (tm : List Value) (w : World) : Prop :=
  ∃ (s : Sta) (on : Bool) (did : List Bool) (i : Int) (Ok : Nat → Prop) (β : List Value), fin = (s, did, 0) ∧ Rel B Ok0 w0 w Ok β (st41 u g l' oD oR l inp st0 bases s on did i) tm
def badOk (l : Lad) (inp : List Bool) (st0 : Sta) (bases : List Int) (fin : Sta × List Bool × Int) (B Ok0 : Nat → Prop) (w0 : World) (u : List Value) (g l' : Nat) (oD oDn : Obj) (tm : List Value) (w : World) : Prop :=
  ∃ (e : Int) (s : Sta) (on : Bool) (did : List Bool) (Ok : Nat → Prop) (β : List Value), fin = (zeroS, [], e) ∧ Rel B Ok0 w0 w Ok β (sp 34 [(0, .v (.one (.yld l')))] (hpG l inp st0 [.nils, .nils, .nils] [.nils] [.int .i64 e] bases s on did ++ mo41 u g l' oD oDn l)) tm
theorem coilGo_small (on : Bool) : ∀ (cs : List Coi) (s : Sta), small s → small (coilGo on cs s).1
  | [], _, h => h
  | c :: r, s, h => by
    simp only [coilGo]
    cases decide (c.1 < 0) with
    | true => exact small_zero
    | false =>
      cases decide (c.1 ≥ 4) with
      | true => exact small_zero
      | false =>
        cases (writeS s c.2 (writes c.1 on).1).2 != 0 with
        | true => exact small_zero
        | false =>
          simp only [cond_false]
          refine coilGo_small on r _ ?_
          cases (writes c.1 on).2 with
          | true => exact small_write h _ _
          | false => exact h
theorem scanR_small {s : Sta} (h : small s) (r : Rung) (inp : List Bool) (slot : Int) : small (scanR r inp s slot).1 := by
  unfold scanR
  cases (contactsR r inp s slot).2.2 != 0 with
  | true => exact small_zero
  | false =>
    cases (conductsR r (contactsR r inp s slot).1).2 != 0 with
    | true => exact small_zero
    | false =>
      cases (coilGo (conductsR r (contactsR r inp s slot).1).1 r.coils (contactsR r inp s slot).2.1).2 != 0 with
      | true => exact small_zero
      | false => exact coilGo_small _ _ _ (small_contacts h r inp slot)
section
variable {B Ok0 : Nat → Prop} {w0 : World}
def posOf (a : Act) : Nat := match a.tmps.getD 4 undef with | .int _ x => x.toNat | _ => 0
theorem posOf_rel {w : World} {Ok : Nat → Prop} {β : List Value} {u : List Value} {g l' : Nat} {oD oL : Obj} {l : Lad} {inp : List Bool} {st0 : Sta} {bases : List Int} {s : Sta} {on : Bool} {did : List Bool} {i : Nat} {a : Act}
    (r : Rel B Ok0 w0 w Ok β (st41 u g l' oD oL l inp st0 bases s on did i) a.tmps.toList) : posOf a = i := by
  have hs : (st41 u g l' oD oL l inp st0 bases s on did i).slots[4]? = some (.v (.one (.int .i64 i))) := rfl
  obtain ⟨b, hb, hr⟩ := r.s.s.get hs
  have hbv : b = .int .i64 i := hr
  have hb' : a.tmps[4]? = some b := by simpa using hb
  unfold posOf
  rw [Array.getD_eq_getD_getElem?, hb', hbv]
  simp
set_option maxRecDepth 100000 in
/-- The way out at a fault. -/
theorem iter_bad {n : Nat} (hB : ∀ g, B g → g < w0.heap.size) {u : List Value} {g l' : Nat} {oD oL : Obj} {l : Lad} {inp : List Bool} {st0 : Sta} {e : Int} {bases : List Int} {s : Sta} {on : Bool} {did : List Bool} {r : Rung} {i : Int}
    {a3 : Act} {w : World} {Ok : Nat → Prop} {β : List Value} {R F : Exit → Act → World → Prop} (hd3 : a3.defers = [])
    (r5 : Rel B Ok0 w0 w Ok β (sp 34 (sy41 l' r i) (hpG l inp st0 [.nils, .nils, .nils] [.nils] [.int .i64 e] bases s on did ++ mo41 u g l' oD oL l ++ [.box 46 (leaves k45 r)])) a3.tmps.toList)
    (hR : ∀ a7 w7, (Code.b y41).wpIn Fence.wide n Try.prog F a7 w7 → R .normal a7 w7)
    (hF : ∀ a8 w8, a8.defers = [] → (∃ Ok8 β9, Rel B Ok0 w0 w8 Ok8 β9 (sp 34 [(0, .v (.one (.yld l')))] (hpG l inp st0 [.nils, .nils, .nils] [.nils] [.int .i64 e] bases s on did ++ mo41 u g l' oD oL l)) a8.tmps.toList) → F .ret a8 w8) :
    wpListIn Fence.wide n Try.prog ops41 R (ops41.toList.drop 4) (a3.put o41.dst (.bool false)) w := by
  have r6 := r5.put (a := a3) o41.dst (av := .v (.one (.bool false))) (v := .bool false) rfl
  obtain ⟨hT, -⟩ := tailR41_self u g l' oD oL l inp st0 e bases s on did r i
  unfold TailR41 at hT
  have e0 : putS (sp 34 (sy41 l' r i) (hpG l inp st0 [.nils, .nils, .nils] [.nils] [.int .i64 e] bases s on did ++ mo41 u g l' oD oL l ++ [.box 46 (leaves k45 r)])) o41.dst (.v (.one (.bool false))) =
      sp 34 (sy41 l' r i ++ [(19, .v (.one (.bool false)))]) (hpG l inp st0 [.nils, .nils, .nils] [.nils] [.int .i64 e] bases s on did ++ mo41 u g l' oD oL l ++ [.box 46 (leaves k45 r)]) := by rw [o41_dst]; rfl
  rw [e0] at r6
  have hdp : (a3.put o41.dst (.bool false)).defers = [] := by rw [put_defers]; exact hd3
  rw [show ops41.toList.drop 4 = ops41.toList.drop 4 ++ [] by simp]
  refine opsK_then tt_ok env41 hB (ops41.toList.drop 4) hdp r6 (by assumption) ?_
  rintro a7 w7 ⟨hd7, s7, Ok7, β7, hq, r7⟩
  refine wpListIn_nil (hR _ _ ?_)
  refine wpIn_mono (wpIn_wide.2 (awp_sound tt_ok env41 mixed hB (Code.b y41) 1 hd7 r7 hq)) fun e a8 w8 hq => ?_
  cases e with
  | ret =>
    obtain ⟨hd8, s8, Ok8, β8, hq, r8⟩ := hq
    obtain ⟨s9, β9, rfl, r9⟩ := dropK_sound r8 hq
    exact hF _ _ hd8 ⟨Ok8, β9, r9⟩
  | _ => first | exact hq.elim | (obtain ⟨_, _, _, _, hq, _⟩ := hq; exact hq.elim)
/-- The iterator's loop. -/
theorem iter_loop {n : Nat} {fno : FuncId} (hB : ∀ g, B g → g < w0.heap.size) {l : Lad} (hv : Valid l) {inp : List Bool} {st0 : Sta} {fin : Sta × List Bool × Int} {u : List Value} {g l' D : Nat} {oD : Obj} {oR oDn : Obj}
    (hoR : oR = .loop { state := .ready, pending := none, fn := fno, tmps := u.toArray, params := #[63, 64], assign := as11, body := bd11, defers := D })
    (hoDn : oDn = .loop { state := .done, pending := some .ret, fn := fno, tmps := u.toArray, params := #[63, 64], assign := as11, body := bd11, defers := D })
    {a : Act} {w : World} {Ok : Nat → Prop} {β : List Value} (hd : a.defers = []) {s : Sta} {on : Bool} {did : List Bool} (hs : small s) (hdid : did.length = l.rungs.length) (hfin : scanGo l inp l.rungs.length 0 s did = fin)
    (r : Rel B Ok0 w0 w Ok β (st41 u g l' oD oR l inp st0 (basesFrom 0 l.rungs) s on did 0) a.tmps.toList) :
    (Code.loop lp41).wpIn Fence.wide n Try.prog (fun e a' w' => match e with
      | .exit 0 => a'.defers = [] ∧ endOk l inp st0 (basesFrom 0 l.rungs) fin B Ok0 w0 u g l' oD oR a'.tmps.toList w'
      | .ret => a'.defers = [] ∧ badOk l inp st0 (basesFrom 0 l.rungs) fin B Ok0 w0 u g l' oD oDn a'.tmps.toList w'
      | _ => False) a w := by
  have hlen := hv.len
  refine wpIn_loop (fun a w => a.defers = [] ∧ ∃ (i k : Nat) (s : Sta) (did : List Bool) (on : Bool) (Ok : Nat → Prop) (β : List Value), i ≤ l.rungs.length ∧ l.rungs.length - i ≤ k ∧ small s ∧ did.length = l.rungs.length ∧ scanGo l inp k i s did = fin ∧
    Rel B Ok0 w0 w Ok β (st41 u g l' oD oR l inp st0 (basesFrom 0 l.rungs) s on did i) a.tmps.toList) (fun a _ => l.rungs.length - posOf a) ⟨hd, 0, l.rungs.length, s, did, on, Ok, β, Nat.zero_le _, Nat.le_refl _, hs, hdid, hfin, r⟩ ?_
  rintro a w ⟨hd, i, k, s, did, on, Ok, β, hi, hk, hs, hdid, hfin, r⟩
  have hpos := posOf_rel r
  rw [lp41_eq]
  -- the head
  have hH : Head41 (fun ex s' => match ex with
      | .normal => i < l.rungs.length ∧ s' = sty u g l' oD oR l inp st0 (basesFrom 0 l.rungs) s on did (getE k45 l.rungs i) i
      | .exit n => n = 0 ∧ ¬ i < l.rungs.length ∧ s' = st41 u g l' oD oR l inp st0 (basesFrom 0 l.rungs) s on did i
      | .ret => False) u g l' oD oR l inp st0 (basesFrom 0 l.rungs) s on did i := by
    refine kc (head41_eq _ _ _ _ _ _ _ _ _ _ _ _ _ _) (brP_intro (fun c => ?_) (fun c => ?_))
    · have c : i < l.rungs.length := by simpa using c
      exact ⟨⟨by omega, by omega⟩, c, rfl⟩
    · have c : ¬ i < l.rungs.length := by simpa using c
      exact ⟨rfl, c, rfl⟩
  unfold Head41 at hH
  refine wpIn_seq (wpIn_mono (wpIn_wide.2 (awp_sound tt_ok env41 mixed hB x41 0 hd r hH)) fun e a1 w1 hq => ?_)
  cases e with
  | exit n =>
    obtain ⟨hd1, s1, Ok1, β1, hq, r1⟩ := hq
    obtain ⟨s2, β2, ⟨rfl, hn, rfl⟩, r2⟩ := dropK_sound r1 hq
    refine ⟨hd1, s, on, did, i, Ok1, β2, ?_, r2⟩
    cases k with
    | zero => exact hfin.symm
    | succ k =>
      simp only [scanGo] at hfin
      rw [decide_eq_true (show l.rungs.length ≤ i by omega)] at hfin
      exact hfin.symm
  | ret => obtain ⟨_, _, _, _, hq, _⟩ := hq; exact hq.elim
  | normal =>
    obtain ⟨hd1, s1, Ok1, β1, hq, r1⟩ := hq
    rw [b41_eq]
    refine wpIn_block (wpIn_seq (wpIn_mono (wpIn_wide.2 (awp_sound tt_ok env41 mixed hB r41 1 hd1 r1 hq)) fun e a2 w2 hq => ?_))
    cases e with
    | normal =>
      obtain ⟨hd2, s2, Ok2, β2, hq, r2⟩ := hq
      refine wpIn_seq (wpIn_seq (wpIn_region_list ?_))
      rw [ops41_eq]
      refine opsK_then tt_ok env41 hB (ops41.toList.take 3) hd2 r2 hq ?_
      rintro a3 w3 ⟨hd3, s3, Ok3, β3, hq, r3⟩
      obtain ⟨s4, β4, ⟨hlt, rfl⟩, r4⟩ := dropK_sound r3 hq
      clear hq hH r3 r2 r1
      -- the round
      have hgetI : bound (i : Int) did.length := ⟨by omega, by omega⟩
      have hbl : bound (i : Int) (basesFrom 0 l.rungs).length := ⟨by omega, by rw [basesFrom_len]; omega⟩
      have hcc := hv.rung i hlt
      have hf := r4.frame_get (i := 13) (u := u) (cs := spl 88 0 (sl11 ++ [(62, .v (.one (.clo 41 [.id 11, .id 12])))])) rfl
      have h17 : ∃ v17, a3.tmps.toList[17]? = some v17 ∧ RelV w3 Ok3 β4 (.v (.one (.int .i64 i))) v17 := r4.s.s.get rfl
      have h18 : ∃ v18, a3.tmps.toList[18]? = some v18 ∧ RelV w3 Ok3 β4 (.v (nfK k45 (getE k45 l.rungs i))) v18 := r4.s.s.get rfl
      have h16 : ∃ v16, a3.tmps.toList[16]? = some v16 ∧ RelV w3 Ok3 β4 (.v (.one (.yld l'))) v16 := r4.s.s.get rfl
      obtain ⟨v17, e17, r17⟩ := h17
      obtain ⟨v18, e18, r18⟩ := h18
      obtain ⟨v16, e16, r16⟩ := h16
      have ev : ∀ t v, a3.tmps.toList[t]? = some v → a3.eval (.tmp t) = v := fun t v h => by
        have h' : a3.tmps[t]? = some v := by simpa using h
        show a3.tmps.getD t undef = v
        simp [h']
      have hsA : All2 (RelV w3 Ok3 β4) (spl 88 0 (sl11 ++ [(62, .v (.one (.clo 41 [.id 11, .id 12]))), (63, .v (.one (.int .i64 i))), (64, .v (nfK k45 (getE k45 l.rungs i)))]))
          (((#[63, 64] : Array Tmp).zip #[v17, v18]).foldl (fun tmps (t, a) => tmps.setIfInBounds t a) u.toArray).toList := by
        have e1 : (((#[63, 64] : Array Tmp).zip #[v17, v18]).foldl (fun tmps (t, a) => tmps.setIfInBounds t a) u.toArray).toList = (u.set 63 v17).set 64 v18 := by simp
        rw [e1]
        exact (hf.set 63 r17).set 64 r18
      have hR : Round11 (fun x => x = sty u g l' oD oR l inp st0 (basesFrom 0 l.rungs) (scanR (getE k45 l.rungs i) inp s (getE (.int .i64) (basesFrom 0 l.rungs) i)).1 (scanR (getE k45 l.rungs i) inp s (getE (.int .i64) (basesFrom 0 l.rungs) i)).2.1 (did.set i true) (getE k45 l.rungs i) i ∧
            (scanR (getE k45 l.rungs i) inp s (getE (.int .i64) (basesFrom 0 l.rungs) i)).2.2 = 0)
          (fun x => x = sp 34 (sy41 l' (getE k45 l.rungs i) i) (hpG l inp st0 [.nils, .nils, .nils] [.nils] [.int .i64 (scanR (getE k45 l.rungs i) inp s (getE (.int .i64) (basesFrom 0 l.rungs) i)).2.2] (basesFrom 0 l.rungs) s on (did.set i true) ++ mo41 u g l' oD oDn l ++ [.box 46 (leaves k45 (getE k45 l.rungs i))]) ∧
            (scanR (getE k45 l.rungs i) inp s (getE (.int .i64) (basesFrom 0 l.rungs) i)).2.2 ≠ 0)
          a3.tmps.toList oR (.loop { state := .busy, pending := none, fn := fno, tmps := u.toArray, params := #[63, 64], assign := as11, body := bd11, defers := D }) oDn u g l' oD l inp st0 (basesFrom 0 l.rungs) s on did (getE k45 l.rungs i) i := by
        have hx : rx11 (fun x => x = sty u g l' oD oR l inp st0 (basesFrom 0 l.rungs) (scanR (getE k45 l.rungs i) inp s (getE (.int .i64) (basesFrom 0 l.rungs) i)).1 (scanR (getE k45 l.rungs i) inp s (getE (.int .i64) (basesFrom 0 l.rungs) i)).2.1 (did.set i true) (getE k45 l.rungs i) i ∧
            (scanR (getE k45 l.rungs i) inp s (getE (.int .i64) (basesFrom 0 l.rungs) i)).2.2 = 0)
          (fun x => x = sp 34 (sy41 l' (getE k45 l.rungs i) i) (hpG l inp st0 [.nils, .nils, .nils] [.nils] [.int .i64 (scanR (getE k45 l.rungs i) inp s (getE (.int .i64) (basesFrom 0 l.rungs) i)).2.2] (basesFrom 0 l.rungs) s on (did.set i true) ++ mo41 u g l' oD oDn l ++ [.box 46 (leaves k45 (getE k45 l.rungs i))]) ∧
            (scanR (getE k45 l.rungs i) inp s (getE (.int .i64) (basesFrom 0 l.rungs) i)).2.2 ≠ 0)
          a3.tmps.toList oR (.loop { state := .busy, pending := none, fn := fno, tmps := u.toArray, params := #[63, 64], assign := as11, body := bd11, defers := D }) oDn u g l' oD l inp st0 (basesFrom 0 l.rungs) s on did (getE k45 l.rungs i) i := by
          refine ⟨⟨hs, by omega, by omega⟩, brP_intro (fun c => ⟨⟨rfl, rfl⟩, rfl, ?_, by simpa using c⟩) (fun c => ⟨⟨rfl, rfl⟩, rfl, ?_, by simpa using c⟩)⟩
          · rw [Int.toNat_natCast]
          · rw [Int.toNat_natCast]
        exact kc (round11_eq _ _ _ _ _ _ _ _ _ _ _ _ _ _ _ _ _ _ _) ⟨⟨rfl, rfl⟩, hgetI, hbl, hx, hx⟩
      have hround := round_sound (n := n - 1) tt_ok env11 mixed hB (A := []) (fn := fno) (u := u) (ps := #[63, 64]) (assign := as11) (body := bd11) (D := D) (iL := 15) (l := l') (by kernel_rfl) (by kernel_rfl) r4 (by rw [← hoR]; rfl)
        (args := #[v17, v18]) rfl hsA (L := L17) (by rw [← hoR, ← hoDn]; exact hR)
      obtain ⟨fn', tmps', assign', body', hy, hR2⟩ := hround
      refine wpListIn_plain o41_guard fun K hK => ?_
      refine ⟨fun _ _ => trivial, ?_⟩
      have hsem : o41.semAt Fence.wide.round a3.eval = execOp a3.eval o41 := by simp [Fence.wide, Oper.semAt]
      have hv16 : v16 = .func (.yield l') #[] #[] := r16
      have hrun : (execOp a3.eval o41).run Try.prog w3 = .ok (.round l' fn' tmps' assign' body') w3 := by
        simp [execOp, o41_op, resolve, call41_callee, call41_args, ev 16 v16 e16, ev 17 v17 e17, ev 18 v18 e18, hv16, Deferred.ofValue, invoke, hy]
      rw [hsem, hrun]
      refine ⟨fun h => by simp [Fence.wide] at h, RoundIn.mono hR2 fun e w4 he => ?_⟩
      rcases he with ⟨rfl, s5, Ok5, β5, ⟨rfl, hok⟩, r5⟩ | ⟨rfl, s5, Ok5, β5, ⟨rfl, hbad⟩, r5⟩
      · -- on with the next
        refine hK _ _ ?_
        have r6 := r5.put (a := a3) o41.dst (av := .v (.one (.bool true))) (v := .bool true) rfl
        have hT : Tail41 (fun ex x => match ex with
            | .normal => x = st41 u g l' oD oR l inp st0 (basesFrom 0 l.rungs) (scanR (getE k45 l.rungs i) inp s (getE (.int .i64) (basesFrom 0 l.rungs) i)).1 (scanR (getE k45 l.rungs i) inp s (getE (.int .i64) (basesFrom 0 l.rungs) i)).2.1 (did.set i true)
                (nextR l i (scanR (getE k45 l.rungs i) inp s (getE (.int .i64) (basesFrom 0 l.rungs) i)).2.1 : Nat)
            | _ => False) u g l' oD oR l inp st0 (basesFrom 0 l.rungs) (scanR (getE k45 l.rungs i) inp s (getE (.int .i64) (basesFrom 0 l.rungs) i)).1 (scanR (getE k45 l.rungs i) inp s (getE (.int .i64) (basesFrom 0 l.rungs) i)).2.1 (did.set i true) (getE k45 l.rungs i) i := by
          have hw : IntKind.i64.wrap ((i : Int) + 1) = ((i + 1 : Nat) : Int) := by rw [wrap_in (by omega) (by omega)]; omega
          have hbj : (ByteArray.toList (getE k45 l.rungs i).2.2.2 != ByteArray.toList (ByteArray.mk #[])) = !decide (jumpAt l i = str0) := by rw [bne, strEq]; rfl
          refine kc (tail41_eq _ _ _ _ _ _ _ _ _ _ _ _ _ _ _) ?_
          rw [hw, hbj]
          refine brP_intro (fun c => ?_) (fun c => ?_)
          · refine brP_intro (fun d => ⟨⟨by omega, by omega⟩, by omega, ?_⟩) (fun d => ?_)
            · have hj := hv.jump i hlt (by simpa using d)
              show st41 _ _ _ _ _ _ _ _ _ _ _ _ (behind l i) = _
              have e1 : ((nextR l i (scanR (getE k45 l.rungs i) inp s (getE (.int .i64) (basesFrom 0 l.rungs) i)).2.1 : Nat) : Int) = behind l i := by
                unfold nextR
                rw [c, d]
                simp only [Bool.and_self, cond_true]
                omega
              rw [e1]
            · show st41 _ _ _ _ _ _ _ _ _ _ _ _ _ = _
              unfold nextR
              rw [c, d]
              rfl
          · show st41 _ _ _ _ _ _ _ _ _ _ _ _ _ = _
            unfold nextR
            rw [c]
            rfl
        unfold Tail41 at hT
        have e0 : putS (sty u g l' oD oR l inp st0 (basesFrom 0 l.rungs) (scanR (getE k45 l.rungs i) inp s (getE (.int .i64) (basesFrom 0 l.rungs) i)).1 (scanR (getE k45 l.rungs i) inp s (getE (.int .i64) (basesFrom 0 l.rungs) i)).2.1 (did.set i true) (getE k45 l.rungs i) i) o41.dst (.v (.one (.bool true))) =
            stz u g l' oD oR l inp st0 (basesFrom 0 l.rungs) (scanR (getE k45 l.rungs i) inp s (getE (.int .i64) (basesFrom 0 l.rungs) i)).1 (scanR (getE k45 l.rungs i) inp s (getE (.int .i64) (basesFrom 0 l.rungs) i)).2.1 (did.set i true) (getE k45 l.rungs i) i true := by rw [o41_dst]; rfl
        rw [e0] at r6
        have hdp : (a3.put o41.dst (.bool true)).defers = [] := by rw [put_defers]; exact hd3
        rw [show ops41.toList.drop 4 = ops41.toList.drop 4 ++ [] by simp]
        refine opsK_then tt_ok env41 hB (ops41.toList.drop 4) hdp r6 hT ?_
        rintro a7 w7 ⟨hd7, s7, Ok7, β7, hq, r7⟩
        refine wpListIn_nil ?_
        refine wpIn_mono (wpIn_wide.2 (awp_sound tt_ok env41 mixed hB (Code.b y41) 1 hd7 r7 hq)) fun e a8 w8 hq => ?_
        cases e with
        | normal =>
          obtain ⟨hd8, s8, Ok8, β8, hq, r8⟩ := hq
          refine wpIn_mono (wpIn_wide.2 (awp_sound tt_ok env41 mixed hB t41 1 hd8 r8 hq)) fun e a9 w9 hq => ?_
          cases e with
          | normal =>
            obtain ⟨hd9, s9, Ok9, β9, hq, r9⟩ := hq
            obtain ⟨s10, β10, hq, r10⟩ := dropK_sound r9 hq
            subst hq
            have hp9 := posOf_rel r10
            have hnx : i < nextR l i (scanR (getE k45 l.rungs i) inp s (getE (.int .i64) (basesFrom 0 l.rungs) i)).2.1 ∧ nextR l i (scanR (getE k45 l.rungs i) inp s (getE (.int .i64) (basesFrom 0 l.rungs) i)).2.1 ≤ l.rungs.length := by
              unfold nextR
              cases hc : ((scanR (getE k45 l.rungs i) inp s (getE (.int .i64) (basesFrom 0 l.rungs) i)).2.1 && !decide (jumpAt l i = str0)) with
              | true =>
                have hj := hv.jump i hlt (by simp at hc; exact hc.2)
                simp only [cond_true]
                omega
              | false => simp only [cond_false]; omega
            refine ⟨⟨hd9, nextR l i (scanR (getE k45 l.rungs i) inp s (getE (.int .i64) (basesFrom 0 l.rungs) i)).2.1, k - 1, _, _, _, Ok9, β10, hnx.2, by omega, scanR_small hs _ _ _, by rw [List.length_set]; exact hdid, ?_, r10⟩, by rw [hp9, hpos]; omega⟩
            cases k with
            | zero => omega
            | succ k =>
              simp only [scanGo] at hfin
              rw [decide_eq_false (show ¬ l.rungs.length ≤ i by omega)] at hfin
              have hok' : ((scanR (getE k45 l.rungs i) inp s (getE ki (basesFrom 0 l.rungs) i)).2.2 != 0) = false := by simpa using hok
              rw [hok'] at hfin
              exact hfin
          | _ => first | exact hq.elim | (obtain ⟨_, _, _, _, hq, _⟩ := hq; exact hq.elim)
        | _ => first | exact hq.elim | (obtain ⟨_, _, _, _, hq, _⟩ := hq; exact hq.elim)
      · -- a fault
        refine hK _ _ ?_
        refine iter_bad hB hd3 r5 (fun _ _ h => h) fun a8 w8 hd8 hr => ?_
        obtain ⟨Ok8, β9, r9⟩ := hr
        refine ⟨hd8, _, s, on, did.set i true, Ok8, β9, ?_, r9⟩
        cases k with
        | zero => omega
        | succ k =>
          simp only [scanGo] at hfin
          rw [decide_eq_false (show ¬ l.rungs.length ≤ i by omega)] at hfin
          have hbad' : ((scanR (getE k45 l.rungs i) inp s (getE ki (basesFrom 0 l.rungs) i)).2.2 != 0) = true := by simpa using hbad
          rw [hbad'] at hfin
          exact hfin.symm
    | _ => first | exact hq.elim | (obtain ⟨_, _, _, _, hq, _⟩ := hq; exact hq.elim)
  | _ => exact hq.elim
end
end Go.AM
namespace Go.AM
open Go.Proofs
theorem idxP_hit (p : Rung → Bool) : ∀ (l : List Rung) (i : Nat), 0 ≤ idxP p l i → ∃ k : Nat, k < l.length ∧ idxP p l i = ((i + k : Nat) : Int) ∧ p (getE k45 l k) = true
  | [], i, h => by simp [idxP] at h
  | r :: l, i, h => by
    simp only [idxP] at h ⊢
    cases hp : p r with
    | true => exact ⟨0, by simp, by simp [hp], by simpa [getE] using hp⟩
    | false =>
      rw [hp] at h
      simp only [cond_false] at h ⊢
      obtain ⟨k, h1, h2, h3⟩ := idxP_hit p l (i + 1) h
      refine ⟨k + 1, by simpa using h1, by rw [h2]; congr 1; omega, ?_⟩
      have e : getE k45 (r :: l) ((k + 1 : Nat) : Int) = getE k45 l (k : Int) := by
        have a1 : ((k + 1 : Nat) : Int).toNat = k + 1 := by omega
        have a2 : ((k : Nat) : Int).toNat = k := by omega
        unfold getE
        rw [a1, a2, List.getD_cons_succ]
      rw [e]; exact h3
theorem behind_hit {l : Lad} {i : Nat} (h : (i : Int) < behind l i) : ∃ m : Nat, behind l i = (m : Int) ∧ i < m ∧ m < l.rungs.length ∧ Rung.label (getE k45 l.rungs m) = jumpAt l i := by
  have e : ((i : Int) + 1).toNat = i + 1 := by omega
  unfold behind at h ⊢
  rw [e] at h ⊢
  obtain ⟨k, h1, h2, h3⟩ := idxP_hit (fun r => decide (Rung.label r = jumpAt l i)) (l.rungs.drop (i + 1)) 0 (by omega)
  rw [List.length_drop] at h1
  refine ⟨i + 1 + k, by rw [h2]; omega, by omega, by omega, ?_⟩
  have h3 := of_decide_eq_true h3
  have e2 : getE k45 (l.rungs.drop (i + 1)) (k : Int) = getE k45 l.rungs ((i + 1 + k : Nat) : Int) := by
    have a1 : ((k : Nat) : Int).toNat = k := by omega
    have a2 : ((i + 1 + k : Nat) : Int).toNat = i + 1 + k := by omega
    unfold getE
    rw [a1, a2]
    simp [List.getD]
  rw [e2] at h3
  exact h3
/-- A rung that was executed, the next one not: it jumped. -/
def Jumped (l : Lad) (d : List Bool) (j : Nat) : Prop :=
  ∃ m, j + 1 < m ∧ m < d.length ∧ d.getD m false = true ∧ (∀ t, j < t → t < m → d.getD t false = false) ∧ jumpAt l j ≠ str0 ∧ Rung.label (getE k45 l.rungs m) = jumpAt l j
theorem getD_set (l : List Bool) (i j : Nat) (h : i < l.length) : (l.set i true).getD j false = if i = j then true else l.getD j false := by
  rw [List.getD_eq_getElem?_getD, List.getElem?_set, List.getD_eq_getElem?_getD]
  split
  · rename_i e; subst e; simp [h]
  · rfl
theorem scanGo_did {l : Lad} (hv : Valid l) {inp : List Bool} {s2 : Sta} {d : List Bool} : ∀ (k i : Nat) (s : Sta) (did : List Bool), l.rungs.length - i ≤ k → i ≤ l.rungs.length → did.length = l.rungs.length → (∀ j, i ≤ j → did.getD j false = false) →
    scanGo l inp k i s did = (s2, d, 0) →
    d.length = l.rungs.length ∧ (∀ j, j < i → d.getD j false = did.getD j false) ∧ (i < l.rungs.length → d.getD i false = true) ∧ ∀ j, i ≤ j → j + 1 < l.rungs.length → d.getD j false = true → d.getD (j + 1) false = false → Jumped l d j
  | 0, i, s, did, h1, h2, h3, h4, h => by
    simp only [scanGo] at h
    cases h
    exact ⟨h3, fun _ _ => rfl, fun h => by omega, fun j a b => by omega⟩
  | k + 1, i, s, did, h1, h2, h3, h4, h => by
    simp only [scanGo] at h
    by_cases c : l.rungs.length ≤ i
    · rw [decide_eq_true c] at h
      cases h
      exact ⟨h3, fun _ _ => rfl, fun h => by omega, fun j a b => by omega⟩
    · rw [decide_eq_false c] at h
      simp only [cond_false] at h
      cases he : ((scanR (getE k45 l.rungs i) inp s (getE ki (basesFrom 0 l.rungs) i)).2.2 != 0) with
      | true =>
        rw [he] at h
        simp only [cond_true, Prod.mk.injEq] at h
        rw [h.2.2] at he
        simp at he
      | false =>
        rw [he] at h
        simp only [cond_false] at h
        have hnx : i < nextR l i (scanR (getE k45 l.rungs i) inp s (getE ki (basesFrom 0 l.rungs) i)).2.1 ∧ nextR l i (scanR (getE k45 l.rungs i) inp s (getE ki (basesFrom 0 l.rungs) i)).2.1 ≤ l.rungs.length ∧
            (nextR l i (scanR (getE k45 l.rungs i) inp s (getE ki (basesFrom 0 l.rungs) i)).2.1 ≠ i + 1 → jumpAt l i ≠ str0 ∧ nextR l i (scanR (getE k45 l.rungs i) inp s (getE ki (basesFrom 0 l.rungs) i)).2.1 < l.rungs.length ∧
              Rung.label (getE k45 l.rungs (nextR l i (scanR (getE k45 l.rungs i) inp s (getE ki (basesFrom 0 l.rungs) i)).2.1)) = jumpAt l i) := by
          generalize (scanR (getE k45 l.rungs i) inp s (getE ki (basesFrom 0 l.rungs) i)).2.1 = on
          unfold nextR
          cases hc : (on && !decide (jumpAt l i = str0)) with
          | false => exact ⟨by simp only [cond_false]; omega, by simp only [cond_false]; omega, fun h => absurd rfl h⟩
          | true =>
            simp only [cond_true]
            have hj : jumpAt l i ≠ str0 := by simp at hc; exact hc.2
            have hb := hv.jump i (by omega) hj
            obtain ⟨m, hm1, hm2, hm3, hm4⟩ := behind_hit hb.1
            rw [hm1, Int.toNat_natCast]
            exact ⟨hm2, by omega, fun _ => ⟨hj, hm3, hm4⟩⟩
        revert hnx h
        generalize nextR l i (scanR (getE k45 l.rungs i) inp s (getE ki (basesFrom 0 l.rungs) i)).2.1 = i'
        intro h ⟨n1, n2, n3⟩
        obtain ⟨a1, a2, a3, a4⟩ := scanGo_did hv k i' _ (did.set i true) (by omega) n2 (by rw [List.length_set]; exact h3) (fun j hj => by rw [getD_set _ _ _ (by omega), if_neg (by omega)]; exact h4 j (by omega)) h
        have b0 : ∀ j, j < i → d.getD j false = did.getD j false := fun j hj => by rw [a2 j (by omega), getD_set _ _ _ (by omega), if_neg (by omega)]
        have b1 : d.getD i false = true := by rw [a2 i n1, getD_set _ _ _ (by omega), if_pos rfl]
        have b2 : ∀ t, i < t → t < i' → d.getD t false = false := fun t ht ht' => by rw [a2 t ht', getD_set _ _ _ (by omega), if_neg (by omega)]; exact h4 t (by omega)
        refine ⟨a1, b0, fun _ => b1, fun j hj hj1 hd hd1 => ?_⟩
        by_cases e : j = i
        · subst e
          by_cases e2 : i' = j + 1
          · subst e2
            rw [a3 hj1] at hd1
            cases hd1
          · obtain ⟨c1, c2, c3⟩ := n3 e2
            exact ⟨i', by omega, by omega, a3 c2, b2, c1, c3⟩
        · by_cases e3 : j < i'
          · rw [b2 j (by omega) e3] at hd
            cases hd
          · exact a4 j (by omega) hj1 hd hd1
theorem scanL_zero {l : Lad} {inp : List Bool} {st : Sta} (h : (scanL l inp st).2.2 = 0) :
    (checkL l).2 = 0 ∧ (inp.length : Int) = l.1 ∧ fits (sizeE l) st = true ∧ scanL l inp st = scanGo l inp l.rungs.length 0 st (List.replicate l.rungs.length false) := by
  unfold scanL at h ⊢
  cases h1 : ((checkL l).2 != 0) with
  | true => rw [h1] at h; simp only [cond_true] at h; rw [h] at h1; simp at h1
  | false =>
    rw [h1] at h
    simp only [cond_false] at h ⊢
    cases h2 : (!decide ((inp.length : Int) = l.1) || !fits (sizeE l) st) with
    | true => rw [h2] at h; simp at h
    | false => simp at h1 h2; exact ⟨h1, h2.1, h2.2, rfl⟩
/-- What a scan without a fault tells. -/
theorem scanL_did {l : Lad} {inp : List Bool} {st : Sta} (h : (scanL l inp st).2.2 = 0) :
    (scanL l inp st).2.1.length = l.rungs.length ∧ l.rungs.length ≤ 64 ∧ (0 < l.rungs.length → (scanL l inp st).2.1.getD 0 false = true) ∧
      ∀ j, j + 1 < l.rungs.length → (scanL l inp st).2.1.getD j false = true → (scanL l inp st).2.1.getD (j + 1) false = false → Jumped l (scanL l inp st).2.1 j := by
  obtain ⟨h1, h2, h3, h4⟩ := scanL_zero h
  have hv := valid_of h1
  have e : scanGo l inp l.rungs.length 0 st (List.replicate l.rungs.length false) = ((scanL l inp st).1, (scanL l inp st).2.1, 0) := by
    rw [← h4, ← h]
  obtain ⟨a1, _, a3, a4⟩ := scanGo_did hv _ 0 st _ (by omega) (by omega) (by simp) (fun j _ => by simp [List.getD_eq_getElem?_getD, List.getElem?_replicate]; split <;> rfl) e
  exact ⟨a1, hv.len, a3, fun j => a4 j (by omega)⟩
end Go.AM
namespace Go.AM
open Go.Proofs
-- f20 "busbar/busbarlaw03.TooLarge" ['48'] -> ['3']
def A20 : Ann := [(0, [5, 6, 7], [], [2])]
def E20 : Env := []
def I20 (p0 : ((.slice 27 k26) : K).ty) : List V1 := [nfK (.slice 27 k26) p0]
noncomputable def L20_0 : Code := Code.a (Code.a (Code.b (Code.a (Code.b (Func.code Try.f20)))))
def S20_0 (l5 : List (K.ty k26)) (x6 : Int) (x7 : Int) : St := sp (28 : Nat) [((5 : Nat), V.v (V1.one (Lf.sl (27 : TypeId) k26 l5))), ((6 : Nat), V.v (V1.one (Lf.int IntKind.i64 x6))), ((7 : Nat), V.v (V1.one (Lf.int IntKind.i64 x7)))] []
def X20_0_0 (x2 : Int) : St := sp (28 : Nat) [((2 : Nat), V.v (V1.one (Lf.int IntKind.i64 x2)))] []
def X20_0_1 : St := sp (28 : Nat) [] []
def t20_0 (again : List (K.ty k26) → Int → Int → Prop) (R0 : Int → Prop) (R1 : Prop) (l5 : List (K.ty k26)) (x6 : Int) (x7 : Int) : Prop :=
  brP (decide (x7 < x6)) (bound x7 (List.length l5) ∧ brP (decide ((↑(List.length (getE k26 l5 x7).fst) : Int) > (1000 : Int))) (R0 (1 : Int)) (brP (decide ((↑(List.length (getE k26 l5 x7).snd.fst) : Int) > (1000 : Int))) (R0 (1 : Int)) (brP (decide ((↑(List.length (getE k26 l5 x7).snd.snd) : Int) > (1000 : Int))) (R0 (1 : Int)) (again l5 x6 (IntKind.wrap IntKind.i64 (x7 + (1 : Int))))))) R1
theorem t20_0_mono {again : List (K.ty k26) → Int → Int → Prop} {R0 : Int → Prop} {R1 : Prop} {again' : List (K.ty k26) → Int → Int → Prop} {R0' : Int → Prop} {R1' : Prop} (ha : ∀ l5 x6 x7, again l5 x6 x7 → again' l5 x6 x7) (hr0 : ∀ x2, R0 x2 → R0' x2) (hr1 :  R1 → R1') (l5 : List (K.ty k26)) (x6 : Int) (x7 : Int) :
    t20_0 again R0 R1 l5 x6 x7 → t20_0 again' R0' R1' l5 x6 x7 :=
  brM (andM (id) (brM (hr0 _) (brM (hr0 _) (brM (hr0 _) (ha _ _ _))))) (hr1)
theorem t20_0_eq (n : Nat) (Q : Ex → St → Prop) (l5 : List (K.ty k26)) (x6 : Int) (x7 : Int) :
    t20_0 (fun l5 x6 x7 => loopP (awp tt E20 A20 L20_0 0) ([(5 : Nat), (6 : Nat), (7 : Nat)], [], [(2 : Nat)]) n (S20_0 l5 x6 x7) Q) (fun x2 => Q (Ex.ret) (X20_0_0 x2)) ( Q (Ex.exit (nat_lit 0)) (X20_0_1)) l5 x6 x7 = (loopP (awp tt E20 A20 L20_0 0) ([(5 : Nat), (6 : Nat), (7 : Nat)], [], [(2 : Nat)]) (n + 1) (S20_0 l5 x6 x7) Q) := by kernel_rfl
def G20_0 (R0 : Int → Prop) (R1 : Prop) : Nat → List (K.ty k26) → Int → Int → Prop
  | 0, _, _, _ => False
  | n + 1, l5, x6, x7 => t20_0 (G20_0 R0 R1 n) R0 R1 l5 x6 x7
theorem T20_0 {R0 : Int → Prop} {R1 : Prop} (Q : Ex → St → Prop) (hr0 : ∀ x2, R0 x2 → Of (Q (Ex.ret) (X20_0_0 x2))) (hr1 :  R1 → Of (Q (Ex.exit (nat_lit 0)) (X20_0_1))) : ∀ (n : Nat) (l5 : List (K.ty k26)) (x6 : Int) (x7 : Int), G20_0 R0 R1 n l5 x6 x7 → Of (loopP (awp tt E20 A20 L20_0 0) ([(5 : Nat), (6 : Nat), (7 : Nat)], [], [(2 : Nat)]) n (S20_0 l5 x6 x7) Q) := by
  intro n
  induction n with
  | zero => intro l5 x6 x7 h; exact h.elim
  | succ n ih =>
    intro l5 x6 x7 h
    exact kcO (t20_0_eq n Q l5 x6 x7) (t20_0_mono (fun _ _ _ h => (ih _ _ _ h).out) (fun _ h => (hr0 _ h).out) (fun h => (hr1 h).out) l5 x6 x7 h)
def t20 (Q : List V1 → List Ob → Prop) (lp0 : K.ty (K.slice (27 : TypeId) k26) → Prop) (p0 : K.ty (K.slice (27 : TypeId) k26)) : Prop :=
  lp0 p0
theorem t20_mono {Q : List V1 → List Ob → Prop} {Q' : List V1 → List Ob → Prop} {lp0 : K.ty (K.slice (27 : TypeId) k26) → Prop} {lp0' : K.ty (K.slice (27 : TypeId) k26) → Prop} (hq : ∀ r h, Q r h → Q' r h) (hlp0 : ∀ p0, lp0 p0 → lp0' p0) (p0 : K.ty (K.slice (27 : TypeId) k26)) :
    t20 Q lp0 p0 → t20 Q' lp0' p0 :=
  hlp0 _
theorem t20_eq (Q : List V1 → List Ob → Prop) (p0 : K.ty (K.slice (27 : TypeId) k26)) :
    t20 Q (fun p0 => ∃ m, loopP (awp tt E20 A20 L20_0 0) ([(5 : Nat), (6 : Nat), (7 : Nat)], [], [(2 : Nat)]) m (S20_0 (p0) ((↑(List.length p0) : Int)) ((0 : Int))) (blkC (0 : Nat) (seqC (awp tt E20 A20 (Code.b (Code.b (Func.code Try.f20))) (0 : Nat)) (topC tt Try.f20 0 Q)))) p0 = (afun tt E20 A20 Try.f20 (I20 p0) [] Q) := by kernel_rfl
def t20c0x1 (Q : List V1 → List Ob → Prop) (p0 : K.ty (K.slice (27 : TypeId) k26)) : Prop :=
  Q [V1.one (Lf.int IntKind.i64 (0 : Int))] []
theorem t20c0x1_mono {Q : List V1 → List Ob → Prop} {Q' : List V1 → List Ob → Prop} (hq : ∀ r h, Q r h → Q' r h) (p0 : K.ty (K.slice (27 : TypeId) k26)) :
    t20c0x1 Q p0 → t20c0x1 Q' p0 :=
  hq _ _
theorem t20c0x1_eq (Q : List V1 → List Ob → Prop) (p0 : K.ty (K.slice (27 : TypeId) k26)) :
    t20c0x1 Q p0 = ((blkC (0 : Nat) (seqC (awp tt E20 A20 (Code.b (Code.b (Func.code Try.f20))) (0 : Nat)) (topC tt Try.f20 0 Q))) (Ex.exit (nat_lit 0)) (X20_0_1)) := by kernel_rfl
def t20c0x0 (Q : List V1 → List Ob → Prop) (p0 : K.ty (K.slice (27 : TypeId) k26)) (x2e1 : Int) : Prop :=
  Q [V1.one (Lf.int IntKind.i64 x2e1)] []
theorem t20c0x0_mono {Q : List V1 → List Ob → Prop} {Q' : List V1 → List Ob → Prop} (hq : ∀ r h, Q r h → Q' r h) (p0 : K.ty (K.slice (27 : TypeId) k26)) (x2e1 : Int) :
    t20c0x0 Q p0 x2e1 → t20c0x0 Q' p0 x2e1 :=
  hq _ _
theorem t20c0x0_eq (Q : List V1 → List Ob → Prop) (p0 : K.ty (K.slice (27 : TypeId) k26)) (x2e1 : Int) :
    t20c0x0 Q p0 x2e1 = ((blkC (0 : Nat) (seqC (awp tt E20 A20 (Code.b (Code.b (Func.code Try.f20))) (0 : Nat)) (topC tt Try.f20 0 Q))) (Ex.ret) (X20_0_0 x2e1)) := by kernel_rfl
def H20 (Q : List V1 → List Ob → Prop) (p0 : K.ty (K.slice (27 : TypeId) k26)) : Prop := t20 Q (fun p0 => ∃ m, G20_0 (fun x2e1 => t20c0x0 Q p0 x2e1) ( t20c0x1 Q p0) m (p0) ((↑(List.length p0) : Int)) ((0 : Int))) p0
theorem ok20 (Q : List V1 → List Ob → Prop) (p0 : K.ty (K.slice (27 : TypeId) k26)) (h : H20 Q p0) : Of (afun tt E20 A20 Try.f20 (I20 p0) [] Q) :=
  kcO (t20_eq Q p0) (t20_mono (fun _ _ h => h) (fun p0 ⟨m, h⟩ => ⟨m, (T20_0 _ (fun x2e1 h => kcO (t20c0x0_eq _ _ _) (t20c0x0_mono (fun _ _ h => h) _ _ h)) (fun h => kcO (t20c0x1_eq _ _) (t20c0x1_mono (fun _ _ h => h) _ h)) m _ _ _ h).out⟩) p0 h)
theorem env20 : EnvOk Try.prog E20 := .nil
theorem loop20 (l : List Sta) (R0 : Int → Prop) (R1 : Prop) (hl : l.length ≤ 1000000) : ∀ n (i : Nat), l.length - i < n → i ≤ l.length → ((l.drop i).any bigS = true → R0 1) → ((l.drop i).any bigS = false → R1) → G20_0 R0 R1 n l l.length i := by
  intro n
  induction n with
  | zero => intro i h; omega
  | succ n ih =>
    intro i hn hi h0 h1
    refine brP_intro (fun c => ?_) (fun c => ?_)
    · have c : i < l.length := by simpa using c
      rw [getE_cons k26 l i c, List.any_cons] at h0 h1
      refine ⟨⟨by omega, by omega⟩, ?_⟩
      refine brP_intro (fun d => h0 (by unfold bigS; rw [d]; rfl)) (fun d => ?_)
      refine brP_intro (fun e => h0 (by unfold bigS; rw [d, e]; rfl)) (fun e => ?_)
      refine brP_intro (fun f => h0 (by unfold bigS; rw [d, e, f]; rfl)) (fun f => ?_)
      have hb : bigS (getE k26 l i) = false := by unfold bigS; rw [d, e, f]; rfl
      rw [hb, Bool.false_or] at h0 h1
      rw [wrap_in (by omega) (by omega)]
      exact ih (i + 1) (by omega) (by omega) h0 h1
    · have c : ¬ i < l.length := by simpa using c
      rw [List.drop_of_length_le (by omega)] at h1
      exact h1 rfl
theorem spec20 : SpecOk Try.prog 20 sp20 := S1.ok tt_ok mixed env20 Try.func20 fun (l : List Sta) Q h => ok20 Q l <| by
  obtain ⟨hl, h⟩ := h
  refine ⟨l.length + 1, loop20 l _ _ hl _ 0 (by omega) (by omega) (fun e => ?_) (fun e => ?_)⟩
  · rw [List.drop_zero] at e
    rw [e] at h; exact h
  · rw [List.drop_zero] at e
    rw [e] at h; exact h
end Go.AM
