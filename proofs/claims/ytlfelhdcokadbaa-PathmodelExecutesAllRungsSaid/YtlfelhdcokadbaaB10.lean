/- Functions of the program: a ladder's validity. Conditions: none. -/
import Derived.Test.YtlfelhdcokadbaaB9
set_option linter.all false
namespace Go.AM
open Go.Proofs
-- f23 "busbar/printer.Check" ['24'] -> ['3', '32']
def A23 : Ann := [(1, [1, 4, 22, 23, 24], [1], [2, 3]), (3, [1, 42, 43, 44], [1], [2, 3])]
def E23 : Env := [(34, sp34), (35, sp35), (36, sp36), (37, sp37), (38, sp38)]
def I23 (p0 : (k23 : K).ty) : List V1 := [nfK k23 p0]
noncomputable def L23_1 : Code := Code.a (Code.a (Code.b (Code.a (Code.b (Code.b (Code.b (Func.code Try.f23)))))))
def S23_1 (l22 : List (K.ty k45)) (x23 : Int) (x24 : Int) (xh0_0 : Int) (xh0_1 : Int) (xh0_2 : Int) (lh0_3 : List (K.ty k45)) (xh1_0 : Int) (xh1_1 : Int) (xh1_2 : Int) (xh1_3 : Int) : St := sp (67 : Nat) [((1 : Nat), V.v (V1.one (Lf.ptr (nat_lit 0) (nat_lit 0)))), ((4 : Nat), V.v (V1.one (Lf.ptr (nat_lit 1) (nat_lit 0)))), ((22 : Nat), V.v (V1.one (Lf.sl (46 : TypeId) k45 l22))), ((23 : Nat), V.v (V1.one (Lf.int IntKind.i64 x23))), ((24 : Nat), V.v (V1.one (Lf.int IntKind.i64 x24)))] [Ob.box (24 : Nat) [Lf.int IntKind.i64 xh0_0, Lf.int IntKind.i64 xh0_1, Lf.int IntKind.i64 xh0_2, Lf.sl (46 : TypeId) k45 lh0_3], Ob.box (60 : Nat) [Lf.int IntKind.i64 xh1_0, Lf.int IntKind.i64 xh1_1, Lf.int IntKind.i64 xh1_2, Lf.int IntKind.i64 xh1_3]]
def X23_1_0 (x2 : Int) (x3 : Int) : St := sp (67 : Nat) [((2 : Nat), V.v (V1.one (Lf.int IntKind.i64 x2))), ((3 : Nat), V.v (V1.one (Lf.int IntKind.i64 x3)))] []
def X23_1_1 (xh0_0 : Int) (xh0_1 : Int) (xh0_2 : Int) (lh0_3 : List (K.ty k45)) : St := sp (67 : Nat) [((1 : Nat), V.v (V1.one (Lf.ptr (nat_lit 0) (nat_lit 0))))] [Ob.box (24 : Nat) [Lf.int IntKind.i64 xh0_0, Lf.int IntKind.i64 xh0_1, Lf.int IntKind.i64 xh0_2, Lf.sl (46 : TypeId) k45 lh0_3]]
noncomputable def L23_3 : Code := Code.a (Code.a (Code.b (Code.a (Code.b (Code.b (Code.b (Code.b (Func.code Try.f23))))))))
def S23_3 (l42 : List (K.ty k45)) (x43 : Int) (x44 : Int) (xh0_0 : Int) (xh0_1 : Int) (xh0_2 : Int) (lh0_3 : List (K.ty k45)) : St := sp (67 : Nat) [((1 : Nat), V.v (V1.one (Lf.ptr (nat_lit 0) (nat_lit 0)))), ((42 : Nat), V.v (V1.one (Lf.sl (46 : TypeId) k45 l42))), ((43 : Nat), V.v (V1.one (Lf.int IntKind.i64 x43))), ((44 : Nat), V.v (V1.one (Lf.int IntKind.i64 x44)))] [Ob.box (24 : Nat) [Lf.int IntKind.i64 xh0_0, Lf.int IntKind.i64 xh0_1, Lf.int IntKind.i64 xh0_2, Lf.sl (46 : TypeId) k45 lh0_3]]
def X23_3_0 (x2 : Int) (x3 : Int) : St := sp (67 : Nat) [((2 : Nat), V.v (V1.one (Lf.int IntKind.i64 x2))), ((3 : Nat), V.v (V1.one (Lf.int IntKind.i64 x3)))] []
def X23_3_1 (xh0_0 : Int) (xh0_1 : Int) (xh0_2 : Int) (lh0_3 : List (K.ty k45)) : St := sp (67 : Nat) [((1 : Nat), V.v (V1.one (Lf.ptr (nat_lit 0) (nat_lit 0))))] [Ob.box (24 : Nat) [Lf.int IntKind.i64 xh0_0, Lf.int IntKind.i64 xh0_1, Lf.int IntKind.i64 xh0_2, Lf.sl (46 : TypeId) k45 lh0_3]]
def t23_3 (again : List (K.ty k45) → Int → Int → Int → Int → Int → List (K.ty k45) → Prop) (R0 : Int → Int → Prop) (R1 : Int → Int → Int → List (K.ty k45) → Prop) (l42 : List (K.ty k45)) (x43 : Int) (x44 : Int) (xh0_0 : Int) (xh0_1 : Int) (xh0_2 : Int) (lh0_3 : List (K.ty k45)) : Prop :=
  brP (decide (x44 < x43)) (bound x44 (List.length l42) ∧ brP (ByteArray.toList (getE k45 l42 x44).snd.snd.snd != ByteArray.toList (ByteArray.mk #[])) (((0 : Int) ≤ IntKind.wrap IntKind.i64 (x44 + (1 : Int)) ∧ IntKind.wrap IntKind.i64 (x44 + (1 : Int)) ≤ (↑(List.length lh0_3) : Int) ∧ (↑(List.length lh0_3) : Int) ≤ (↑(List.length lh0_3) : Int)) ∧ List.length (List.drop (Int.toNat (IntKind.wrap IntKind.i64 (x44 + (1 : Int)))) (List.take (Int.toNat (↑(List.length lh0_3) : Int)) lh0_3)) ≤ (4611686018427387904 : Nat) ∧ brP (!decide ((0 : Int) ≤ idxP (fun (r : Rung) => decide (Rung.label r = Rung.jump (getE k45 l42 x44))) (List.drop (Int.toNat (IntKind.wrap IntKind.i64 (x44 + (1 : Int)))) (List.take (Int.toNat (↑(List.length lh0_3) : Int)) lh0_3)) (0 : Nat))) (R0 x44 (15 : Int)) (again l42 x43 (IntKind.wrap IntKind.i64 (x44 + (1 : Int))) xh0_0 xh0_1 xh0_2 lh0_3)) (again l42 x43 (IntKind.wrap IntKind.i64 (x44 + (1 : Int))) xh0_0 xh0_1 xh0_2 lh0_3)) (R1 xh0_0 xh0_1 xh0_2 lh0_3)
theorem t23_3_mono {again : List (K.ty k45) → Int → Int → Int → Int → Int → List (K.ty k45) → Prop} {R0 : Int → Int → Prop} {R1 : Int → Int → Int → List (K.ty k45) → Prop} {again' : List (K.ty k45) → Int → Int → Int → Int → Int → List (K.ty k45) → Prop} {R0' : Int → Int → Prop} {R1' : Int → Int → Int → List (K.ty k45) → Prop} (ha : ∀ l42 x43 x44 xh0_0 xh0_1 xh0_2 lh0_3, again l42 x43 x44 xh0_0 xh0_1 xh0_2 lh0_3 → again' l42 x43 x44 xh0_0 xh0_1 xh0_2 lh0_3) (hr0 : ∀ x2 x3, R0 x2 x3 → R0' x2 x3) (hr1 : ∀ xh0_0 xh0_1 xh0_2 lh0_3, R1 xh0_0 xh0_1 xh0_2 lh0_3 → R1' xh0_0 xh0_1 xh0_2 lh0_3) (l42 : List (K.ty k45)) (x43 : Int) (x44 : Int) (xh0_0 : Int) (xh0_1 : Int) (xh0_2 : Int) (lh0_3 : List (K.ty k45)) :
    t23_3 again R0 R1 l42 x43 x44 xh0_0 xh0_1 xh0_2 lh0_3 → t23_3 again' R0' R1' l42 x43 x44 xh0_0 xh0_1 xh0_2 lh0_3 :=
  brM (andM (id) (brM (andM (andM (id) (andM (id) (id))) (andM (id) (brM (hr0 _ _) (ha _ _ _ _ _ _ _)))) (ha _ _ _ _ _ _ _))) (hr1 _ _ _ _)
theorem t23_3_eq (n : Nat) (Q : Ex → St → Prop) (l42 : List (K.ty k45)) (x43 : Int) (x44 : Int) (xh0_0 : Int) (xh0_1 : Int) (xh0_2 : Int) (lh0_3 : List (K.ty k45)) :
    t23_3 (fun l42 x43 x44 xh0_0 xh0_1 xh0_2 lh0_3 => loopP (awp tt E23 A23 L23_3 3) ([(1 : Nat), (42 : Nat), (43 : Nat), (44 : Nat)], [(1 : Nat)], [(2 : Nat), (3 : Nat)]) n (S23_3 l42 x43 x44 xh0_0 xh0_1 xh0_2 lh0_3) Q) (fun x2 x3 => Q (Ex.ret) (X23_3_0 x2 x3)) (fun xh0_0 xh0_1 xh0_2 lh0_3 => Q (Ex.exit (nat_lit 3)) (X23_3_1 xh0_0 xh0_1 xh0_2 lh0_3)) l42 x43 x44 xh0_0 xh0_1 xh0_2 lh0_3 = (loopP (awp tt E23 A23 L23_3 3) ([(1 : Nat), (42 : Nat), (43 : Nat), (44 : Nat)], [(1 : Nat)], [(2 : Nat), (3 : Nat)]) (n + 1) (S23_3 l42 x43 x44 xh0_0 xh0_1 xh0_2 lh0_3) Q) := by kernel_rfl
def G23_3 (R0 : Int → Int → Prop) (R1 : Int → Int → Int → List (K.ty k45) → Prop) : Nat → List (K.ty k45) → Int → Int → Int → Int → Int → List (K.ty k45) → Prop
  | 0, _, _, _, _, _, _, _ => False
  | n + 1, l42, x43, x44, xh0_0, xh0_1, xh0_2, lh0_3 => t23_3 (G23_3 R0 R1 n) R0 R1 l42 x43 x44 xh0_0 xh0_1 xh0_2 lh0_3
theorem T23_3 {R0 : Int → Int → Prop} {R1 : Int → Int → Int → List (K.ty k45) → Prop} (Q : Ex → St → Prop) (hr0 : ∀ x2 x3, R0 x2 x3 → Of (Q (Ex.ret) (X23_3_0 x2 x3))) (hr1 : ∀ xh0_0 xh0_1 xh0_2 lh0_3, R1 xh0_0 xh0_1 xh0_2 lh0_3 → Of (Q (Ex.exit (nat_lit 3)) (X23_3_1 xh0_0 xh0_1 xh0_2 lh0_3))) : ∀ (n : Nat) (l42 : List (K.ty k45)) (x43 : Int) (x44 : Int) (xh0_0 : Int) (xh0_1 : Int) (xh0_2 : Int) (lh0_3 : List (K.ty k45)), G23_3 R0 R1 n l42 x43 x44 xh0_0 xh0_1 xh0_2 lh0_3 → Of (loopP (awp tt E23 A23 L23_3 3) ([(1 : Nat), (42 : Nat), (43 : Nat), (44 : Nat)], [(1 : Nat)], [(2 : Nat), (3 : Nat)]) n (S23_3 l42 x43 x44 xh0_0 xh0_1 xh0_2 lh0_3) Q) := by
  intro n
  induction n with
  | zero => intro l42 x43 x44 xh0_0 xh0_1 xh0_2 lh0_3 h; exact h.elim
  | succ n ih =>
    intro l42 x43 x44 xh0_0 xh0_1 xh0_2 lh0_3 h
    exact kcO (t23_3_eq n Q l42 x43 x44 xh0_0 xh0_1 xh0_2 lh0_3) (t23_3_mono (fun _ _ _ _ _ _ _ h => (ih _ _ _ _ _ _ _ h).out) (fun _ _ h => (hr0 _ _ h).out) (fun _ _ _ _ h => (hr1 _ _ _ _ h).out) l42 x43 x44 xh0_0 xh0_1 xh0_2 lh0_3 h)
def t23_1 (again : List (K.ty k45) → Int → Int → Int → Int → Int → List (K.ty k45) → Int → Int → Int → Int → Prop) (R0 : Int → Int → Prop) (R1 : Int → Int → Int → List (K.ty k45) → Prop) (l22 : List (K.ty k45)) (x23 : Int) (x24 : Int) (xh0_0 : Int) (xh0_1 : Int) (xh0_2 : Int) (lh0_3 : List (K.ty k45)) (xh1_0 : Int) (xh1_1 : Int) (xh1_2 : Int) (xh1_3 : Int) : Prop :=
  brP (decide (x24 < x23)) (bound x24 (List.length l22) ∧ ((0 : Int) ≤ (0 : Int) ∧ (0 : Int) ≤ x24 ∧ x24 ≤ (↑(List.length lh0_3) : Int)) ∧ List.length (List.drop (Int.toNat (0 : Int)) (List.take (Int.toNat x24) lh0_3)) ≤ (4611686018427387904 : Nat) ∧ brP (rungE (xh1_0, xh1_1, xh1_2, xh1_3) (List.drop (Int.toNat (0 : Int)) (List.take (Int.toNat x24) lh0_3)) (getE k45 l22 x24) != (0 : Int)) (R0 x24 (rungE (xh1_0, xh1_1, xh1_2, xh1_3) (List.drop (Int.toNat (0 : Int)) (List.take (Int.toNat x24) lh0_3)) (getE k45 l22 x24))) (again l22 x23 (IntKind.wrap IntKind.i64 (x24 + (1 : Int))) xh0_0 xh0_1 xh0_2 lh0_3 xh1_0 xh1_1 xh1_2 xh1_3)) (R1 xh0_0 xh0_1 xh0_2 lh0_3)
theorem t23_1_mono {again : List (K.ty k45) → Int → Int → Int → Int → Int → List (K.ty k45) → Int → Int → Int → Int → Prop} {R0 : Int → Int → Prop} {R1 : Int → Int → Int → List (K.ty k45) → Prop} {again' : List (K.ty k45) → Int → Int → Int → Int → Int → List (K.ty k45) → Int → Int → Int → Int → Prop} {R0' : Int → Int → Prop} {R1' : Int → Int → Int → List (K.ty k45) → Prop} (ha : ∀ l22 x23 x24 xh0_0 xh0_1 xh0_2 lh0_3 xh1_0 xh1_1 xh1_2 xh1_3, again l22 x23 x24 xh0_0 xh0_1 xh0_2 lh0_3 xh1_0 xh1_1 xh1_2 xh1_3 → again' l22 x23 x24 xh0_0 xh0_1 xh0_2 lh0_3 xh1_0 xh1_1 xh1_2 xh1_3) (hr0 : ∀ x2 x3, R0 x2 x3 → R0' x2 x3) (hr1 : ∀ xh0_0 xh0_1 xh0_2 lh0_3, R1 xh0_0 xh0_1 xh0_2 lh0_3 → R1' xh0_0 xh0_1 xh0_2 lh0_3) (l22 : List (K.ty k45)) (x23 : Int) (x24 : Int) (xh0_0 : Int) (xh0_1 : Int) (xh0_2 : Int) (lh0_3 : List (K.ty k45)) (xh1_0 : Int) (xh1_1 : Int) (xh1_2 : Int) (xh1_3 : Int) :
    t23_1 again R0 R1 l22 x23 x24 xh0_0 xh0_1 xh0_2 lh0_3 xh1_0 xh1_1 xh1_2 xh1_3 → t23_1 again' R0' R1' l22 x23 x24 xh0_0 xh0_1 xh0_2 lh0_3 xh1_0 xh1_1 xh1_2 xh1_3 :=
  brM (andM (id) (andM (andM (id) (andM (id) (id))) (andM (id) (brM (hr0 _ _) (ha _ _ _ _ _ _ _ _ _ _ _))))) (hr1 _ _ _ _)
theorem t23_1_eq (n : Nat) (Q : Ex → St → Prop) (l22 : List (K.ty k45)) (x23 : Int) (x24 : Int) (xh0_0 : Int) (xh0_1 : Int) (xh0_2 : Int) (lh0_3 : List (K.ty k45)) (xh1_0 : Int) (xh1_1 : Int) (xh1_2 : Int) (xh1_3 : Int) :
    t23_1 (fun l22 x23 x24 xh0_0 xh0_1 xh0_2 lh0_3 xh1_0 xh1_1 xh1_2 xh1_3 => loopP (awp tt E23 A23 L23_1 1) ([(1 : Nat), (4 : Nat), (22 : Nat), (23 : Nat), (24 : Nat)], [(1 : Nat)], [(2 : Nat), (3 : Nat)]) n (S23_1 l22 x23 x24 xh0_0 xh0_1 xh0_2 lh0_3 xh1_0 xh1_1 xh1_2 xh1_3) Q) (fun x2 x3 => Q (Ex.ret) (X23_1_0 x2 x3)) (fun xh0_0 xh0_1 xh0_2 lh0_3 => Q (Ex.exit (nat_lit 1)) (X23_1_1 xh0_0 xh0_1 xh0_2 lh0_3)) l22 x23 x24 xh0_0 xh0_1 xh0_2 lh0_3 xh1_0 xh1_1 xh1_2 xh1_3 = (loopP (awp tt E23 A23 L23_1 1) ([(1 : Nat), (4 : Nat), (22 : Nat), (23 : Nat), (24 : Nat)], [(1 : Nat)], [(2 : Nat), (3 : Nat)]) (n + 1) (S23_1 l22 x23 x24 xh0_0 xh0_1 xh0_2 lh0_3 xh1_0 xh1_1 xh1_2 xh1_3) Q) := by kernel_rfl
def G23_1 (R0 : Int → Int → Prop) (R1 : Int → Int → Int → List (K.ty k45) → Prop) : Nat → List (K.ty k45) → Int → Int → Int → Int → Int → List (K.ty k45) → Int → Int → Int → Int → Prop
  | 0, _, _, _, _, _, _, _, _, _, _, _ => False
  | n + 1, l22, x23, x24, xh0_0, xh0_1, xh0_2, lh0_3, xh1_0, xh1_1, xh1_2, xh1_3 => t23_1 (G23_1 R0 R1 n) R0 R1 l22 x23 x24 xh0_0 xh0_1 xh0_2 lh0_3 xh1_0 xh1_1 xh1_2 xh1_3
theorem T23_1 {R0 : Int → Int → Prop} {R1 : Int → Int → Int → List (K.ty k45) → Prop} (Q : Ex → St → Prop) (hr0 : ∀ x2 x3, R0 x2 x3 → Of (Q (Ex.ret) (X23_1_0 x2 x3))) (hr1 : ∀ xh0_0 xh0_1 xh0_2 lh0_3, R1 xh0_0 xh0_1 xh0_2 lh0_3 → Of (Q (Ex.exit (nat_lit 1)) (X23_1_1 xh0_0 xh0_1 xh0_2 lh0_3))) : ∀ (n : Nat) (l22 : List (K.ty k45)) (x23 : Int) (x24 : Int) (xh0_0 : Int) (xh0_1 : Int) (xh0_2 : Int) (lh0_3 : List (K.ty k45)) (xh1_0 : Int) (xh1_1 : Int) (xh1_2 : Int) (xh1_3 : Int), G23_1 R0 R1 n l22 x23 x24 xh0_0 xh0_1 xh0_2 lh0_3 xh1_0 xh1_1 xh1_2 xh1_3 → Of (loopP (awp tt E23 A23 L23_1 1) ([(1 : Nat), (4 : Nat), (22 : Nat), (23 : Nat), (24 : Nat)], [(1 : Nat)], [(2 : Nat), (3 : Nat)]) n (S23_1 l22 x23 x24 xh0_0 xh0_1 xh0_2 lh0_3 xh1_0 xh1_1 xh1_2 xh1_3) Q) := by
  intro n
  induction n with
  | zero => intro l22 x23 x24 xh0_0 xh0_1 xh0_2 lh0_3 xh1_0 xh1_1 xh1_2 xh1_3 h; exact h.elim
  | succ n ih =>
    intro l22 x23 x24 xh0_0 xh0_1 xh0_2 lh0_3 xh1_0 xh1_1 xh1_2 xh1_3 h
    exact kcO (t23_1_eq n Q l22 x23 x24 xh0_0 xh0_1 xh0_2 lh0_3 xh1_0 xh1_1 xh1_2 xh1_3) (t23_1_mono (fun _ _ _ _ _ _ _ _ _ _ _ h => (ih _ _ _ _ _ _ _ _ _ _ _ h).out) (fun _ _ h => (hr0 _ _ h).out) (fun _ _ _ _ h => (hr1 _ _ _ _ h).out) l22 x23 x24 xh0_0 xh0_1 xh0_2 lh0_3 xh1_0 xh1_1 xh1_2 xh1_3 h)
def t23 (Q : List V1 → List Ob → Prop) (lp0 : K.ty k23 → Prop) (p0 : K.ty k23) : Prop :=
  brP (checkSize (sizesOf p0) != (0 : Int)) (Q [V1.one (Lf.int IntKind.i64 (0 : Int)), V1.one (Lf.int IntKind.i64 (3 : Int))] []) (brP (decide ((↑(List.length p0.snd.snd.snd) : Int) > (64 : Int))) (Q [V1.one (Lf.int IntKind.i64 (0 : Int)), V1.one (Lf.int IntKind.i64 (10 : Int))] []) (lp0 p0))
theorem t23_mono {Q : List V1 → List Ob → Prop} {Q' : List V1 → List Ob → Prop} {lp0 : K.ty k23 → Prop} {lp0' : K.ty k23 → Prop} (hq : ∀ r h, Q r h → Q' r h) (hlp0 : ∀ p0, lp0 p0 → lp0' p0) (p0 : K.ty k23) :
    t23 Q lp0 p0 → t23 Q' lp0' p0 :=
  brM (hq _ _) (brM (hq _ _) (hlp0 _))
theorem t23_eq (Q : List V1 → List Ob → Prop) (p0 : K.ty k23) :
    t23 Q (fun p0 => ∃ m, loopP (awp tt E23 A23 L23_1 1) ([(1 : Nat), (4 : Nat), (22 : Nat), (23 : Nat), (24 : Nat)], [(1 : Nat)], [(2 : Nat), (3 : Nat)]) m (S23_1 (p0.snd.snd.snd) ((↑(List.length p0.snd.snd.snd) : Int)) ((0 : Int)) (p0.fst) (p0.snd.fst) (p0.snd.snd.fst) (p0.snd.snd.snd) ((sizesOf p0).fst) ((sizesOf p0).snd.fst) ((sizesOf p0).snd.snd.fst) ((sizesOf p0).snd.snd.snd)) (blkC (1 : Nat) (seqC (awp tt E23 A23 (Code.b (Code.b (Code.b (Code.b (Func.code Try.f23))))) (0 : Nat)) (topC tt Try.f23 0 Q)))) p0 = (afun tt E23 A23 Try.f23 (I23 p0) [] Q) := by kernel_rfl
def t23c0x1 (Q : List V1 → List Ob → Prop) (lp0 : K.ty k23 → Int → Int → Int → List (K.ty k45) → Prop) (p0 : K.ty k23) (xh0_0e1 : Int) (xh0_1e1 : Int) (xh0_2e1 : Int) (lh0_3e1 : List (K.ty k45)) : Prop :=
  lp0 p0 xh0_0e1 xh0_1e1 xh0_2e1 lh0_3e1
theorem t23c0x1_mono {Q : List V1 → List Ob → Prop} {Q' : List V1 → List Ob → Prop} {lp0 : K.ty k23 → Int → Int → Int → List (K.ty k45) → Prop} {lp0' : K.ty k23 → Int → Int → Int → List (K.ty k45) → Prop} (hq : ∀ r h, Q r h → Q' r h) (hlp0 : ∀ p0 xh0_0e1 xh0_1e1 xh0_2e1 lh0_3e1, lp0 p0 xh0_0e1 xh0_1e1 xh0_2e1 lh0_3e1 → lp0' p0 xh0_0e1 xh0_1e1 xh0_2e1 lh0_3e1) (p0 : K.ty k23) (xh0_0e1 : Int) (xh0_1e1 : Int) (xh0_2e1 : Int) (lh0_3e1 : List (K.ty k45)) :
    t23c0x1 Q lp0 p0 xh0_0e1 xh0_1e1 xh0_2e1 lh0_3e1 → t23c0x1 Q' lp0' p0 xh0_0e1 xh0_1e1 xh0_2e1 lh0_3e1 :=
  hlp0 _ _ _ _ _
theorem t23c0x1_eq (Q : List V1 → List Ob → Prop) (p0 : K.ty k23) (xh0_0e1 : Int) (xh0_1e1 : Int) (xh0_2e1 : Int) (lh0_3e1 : List (K.ty k45)) :
    t23c0x1 Q (fun p0 xh0_0e1 xh0_1e1 xh0_2e1 lh0_3e1 => ∃ m, loopP (awp tt E23 A23 L23_3 3) ([(1 : Nat), (42 : Nat), (43 : Nat), (44 : Nat)], [(1 : Nat)], [(2 : Nat), (3 : Nat)]) m (S23_3 (lh0_3e1) ((↑(List.length lh0_3e1) : Int)) ((0 : Int)) (xh0_0e1) (xh0_1e1) (xh0_2e1) (lh0_3e1)) (blkC (3 : Nat) (seqC (awp tt E23 A23 (Code.b (Code.b (Code.b (Code.b (Code.b (Func.code Try.f23)))))) (0 : Nat)) (topC tt Try.f23 0 Q)))) p0 xh0_0e1 xh0_1e1 xh0_2e1 lh0_3e1 = ((blkC (1 : Nat) (seqC (awp tt E23 A23 (Code.b (Code.b (Code.b (Code.b (Func.code Try.f23))))) (0 : Nat)) (topC tt Try.f23 0 Q))) (Ex.exit (nat_lit 1)) (X23_1_1 xh0_0e1 xh0_1e1 xh0_2e1 lh0_3e1)) := by kernel_rfl
def t23c0x1c0x1 (Q : List V1 → List Ob → Prop) (p0 : K.ty k23) (xh0_0e1 : Int) (xh0_1e1 : Int) (xh0_2e1 : Int) (lh0_3e1 : List (K.ty k45)) (xh0_0e5 : Int) (xh0_1e5 : Int) (xh0_2e5 : Int) (lh0_3e5 : List (K.ty k45)) : Prop :=
  Q [V1.one (Lf.int IntKind.i64 (↑(List.length lh0_3e5) : Int)), V1.one (Lf.int IntKind.i64 (0 : Int))] []
theorem t23c0x1c0x1_mono {Q : List V1 → List Ob → Prop} {Q' : List V1 → List Ob → Prop} (hq : ∀ r h, Q r h → Q' r h) (p0 : K.ty k23) (xh0_0e1 : Int) (xh0_1e1 : Int) (xh0_2e1 : Int) (lh0_3e1 : List (K.ty k45)) (xh0_0e5 : Int) (xh0_1e5 : Int) (xh0_2e5 : Int) (lh0_3e5 : List (K.ty k45)) :
    t23c0x1c0x1 Q p0 xh0_0e1 xh0_1e1 xh0_2e1 lh0_3e1 xh0_0e5 xh0_1e5 xh0_2e5 lh0_3e5 → t23c0x1c0x1 Q' p0 xh0_0e1 xh0_1e1 xh0_2e1 lh0_3e1 xh0_0e5 xh0_1e5 xh0_2e5 lh0_3e5 :=
  hq _ _
theorem t23c0x1c0x1_eq (Q : List V1 → List Ob → Prop) (p0 : K.ty k23) (xh0_0e1 : Int) (xh0_1e1 : Int) (xh0_2e1 : Int) (lh0_3e1 : List (K.ty k45)) (xh0_0e5 : Int) (xh0_1e5 : Int) (xh0_2e5 : Int) (lh0_3e5 : List (K.ty k45)) :
    t23c0x1c0x1 Q p0 xh0_0e1 xh0_1e1 xh0_2e1 lh0_3e1 xh0_0e5 xh0_1e5 xh0_2e5 lh0_3e5 = ((blkC (3 : Nat) (seqC (awp tt E23 A23 (Code.b (Code.b (Code.b (Code.b (Code.b (Func.code Try.f23)))))) (0 : Nat)) (topC tt Try.f23 0 Q))) (Ex.exit (nat_lit 3)) (X23_3_1 xh0_0e5 xh0_1e5 xh0_2e5 lh0_3e5)) := by kernel_rfl
def t23c0x1c0x0 (Q : List V1 → List Ob → Prop) (p0 : K.ty k23) (xh0_0e1 : Int) (xh0_1e1 : Int) (xh0_2e1 : Int) (lh0_3e1 : List (K.ty k45)) (x2e5 : Int) (x3e5 : Int) : Prop :=
  Q [V1.one (Lf.int IntKind.i64 x2e5), V1.one (Lf.int IntKind.i64 x3e5)] []
theorem t23c0x1c0x0_mono {Q : List V1 → List Ob → Prop} {Q' : List V1 → List Ob → Prop} (hq : ∀ r h, Q r h → Q' r h) (p0 : K.ty k23) (xh0_0e1 : Int) (xh0_1e1 : Int) (xh0_2e1 : Int) (lh0_3e1 : List (K.ty k45)) (x2e5 : Int) (x3e5 : Int) :
    t23c0x1c0x0 Q p0 xh0_0e1 xh0_1e1 xh0_2e1 lh0_3e1 x2e5 x3e5 → t23c0x1c0x0 Q' p0 xh0_0e1 xh0_1e1 xh0_2e1 lh0_3e1 x2e5 x3e5 :=
  hq _ _
theorem t23c0x1c0x0_eq (Q : List V1 → List Ob → Prop) (p0 : K.ty k23) (xh0_0e1 : Int) (xh0_1e1 : Int) (xh0_2e1 : Int) (lh0_3e1 : List (K.ty k45)) (x2e5 : Int) (x3e5 : Int) :
    t23c0x1c0x0 Q p0 xh0_0e1 xh0_1e1 xh0_2e1 lh0_3e1 x2e5 x3e5 = ((blkC (3 : Nat) (seqC (awp tt E23 A23 (Code.b (Code.b (Code.b (Code.b (Code.b (Func.code Try.f23)))))) (0 : Nat)) (topC tt Try.f23 0 Q))) (Ex.ret) (X23_3_0 x2e5 x3e5)) := by kernel_rfl
def t23c0x0 (Q : List V1 → List Ob → Prop) (p0 : K.ty k23) (x2e1 : Int) (x3e1 : Int) : Prop :=
  Q [V1.one (Lf.int IntKind.i64 x2e1), V1.one (Lf.int IntKind.i64 x3e1)] []
theorem t23c0x0_mono {Q : List V1 → List Ob → Prop} {Q' : List V1 → List Ob → Prop} (hq : ∀ r h, Q r h → Q' r h) (p0 : K.ty k23) (x2e1 : Int) (x3e1 : Int) :
    t23c0x0 Q p0 x2e1 x3e1 → t23c0x0 Q' p0 x2e1 x3e1 :=
  hq _ _
theorem t23c0x0_eq (Q : List V1 → List Ob → Prop) (p0 : K.ty k23) (x2e1 : Int) (x3e1 : Int) :
    t23c0x0 Q p0 x2e1 x3e1 = ((blkC (1 : Nat) (seqC (awp tt E23 A23 (Code.b (Code.b (Code.b (Code.b (Func.code Try.f23))))) (0 : Nat)) (topC tt Try.f23 0 Q))) (Ex.ret) (X23_1_0 x2e1 x3e1)) := by kernel_rfl
def H23 (Q : List V1 → List Ob → Prop) (p0 : K.ty k23) : Prop := t23 Q (fun p0 => ∃ m, G23_1 (fun x2e1 x3e1 => t23c0x0 Q p0 x2e1 x3e1) (fun xh0_0e1 xh0_1e1 xh0_2e1 lh0_3e1 => t23c0x1 Q (fun p0 xh0_0e1 xh0_1e1 xh0_2e1 lh0_3e1 => ∃ m, G23_3 (fun x2e5 x3e5 => t23c0x1c0x0 Q p0 xh0_0e1 xh0_1e1 xh0_2e1 lh0_3e1 x2e5 x3e5) (fun xh0_0e5 xh0_1e5 xh0_2e5 lh0_3e5 => t23c0x1c0x1 Q p0 xh0_0e1 xh0_1e1 xh0_2e1 lh0_3e1 xh0_0e5 xh0_1e5 xh0_2e5 lh0_3e5) m (lh0_3e1) ((↑(List.length lh0_3e1) : Int)) ((0 : Int)) (xh0_0e1) (xh0_1e1) (xh0_2e1) (lh0_3e1)) p0 xh0_0e1 xh0_1e1 xh0_2e1 lh0_3e1) m (p0.snd.snd.snd) ((↑(List.length p0.snd.snd.snd) : Int)) ((0 : Int)) (p0.fst) (p0.snd.fst) (p0.snd.snd.fst) (p0.snd.snd.snd) ((sizesOf p0).fst) ((sizesOf p0).snd.fst) ((sizesOf p0).snd.snd.fst) ((sizesOf p0).snd.snd.snd)) p0
theorem ok23 (Q : List V1 → List Ob → Prop) (p0 : K.ty k23) (h : H23 Q p0) : Of (afun tt E23 A23 Try.f23 (I23 p0) [] Q) :=
  kcO (t23_eq Q p0) (t23_mono (fun _ _ h => h) (fun p0 ⟨m, h⟩ => ⟨m, (T23_1 _ (fun x2e1 x3e1 h => kcO (t23c0x0_eq _ _ _ _) (t23c0x0_mono (fun _ _ h => h) _ _ _ h)) (fun xh0_0e1 xh0_1e1 xh0_2e1 lh0_3e1 h => kcO (t23c0x1_eq _ _ _ _ _ _) (t23c0x1_mono (fun _ _ h => h) (fun p0 xh0_0e1 xh0_1e1 xh0_2e1 lh0_3e1 ⟨m, h⟩ => ⟨m, (T23_3 _ (fun x2e5 x3e5 h => kcO (t23c0x1c0x0_eq _ _ _ _ _ _ _ _) (t23c0x1c0x0_mono (fun _ _ h => h) _ _ _ _ _ _ _ h)) (fun xh0_0e5 xh0_1e5 xh0_2e5 lh0_3e5 h => kcO (t23c0x1c0x1_eq _ _ _ _ _ _ _ _ _ _) (t23c0x1c0x1_mono (fun _ _ h => h) _ _ _ _ _ _ _ _ _ h)) m _ _ _ _ _ _ _ h).out⟩) _ _ _ _ _ h)) m _ _ _ _ _ _ _ _ _ _ _ h).out⟩) p0 h)
theorem env23 : EnvOk Try.prog E23 := .cons spec34 (by kernel_rfl) <| .cons spec35 (by kernel_rfl) <| .cons spec36 (by kernel_rfl) <| .cons spec37 (by kernel_rfl) <| .cons spec38 (by kernel_rfl) <| .nil
theorem loop23a (s : k59.ty) (rs : List Rung) (a b c : Int) (R0 : Int → Int → Prop) (R1 : Int → Int → Int → List Rung → Prop) (hl : rs.length ≤ 1000000) :
    ∀ n k (i : Nat), k < n → i + k = rs.length → (∀ x, chk1 s rs i k = some x → R0 x.1 x.2) → (chk1 s rs i k = none → R1 a b c rs) →
      G23_1 R0 R1 n rs rs.length i a b c rs s.1 s.2.1 s.2.2.1 s.2.2.2 := by
  intro n
  induction n with
  | zero => intro k i h; omega
  | succ n ih =>
    intro k i hk hi h0 h1
    refine brP_intro (fun d => ?_) (fun d => ?_)
    · have d : i < rs.length := by simpa using d
      cases k with
      | zero => omega
      | succ k =>
        simp only [chk1] at h0 h1
        simp only [Int.toNat_natCast, Int.toNat_zero, List.drop_zero]
        refine ⟨⟨by omega, by omega⟩, ⟨by omega, by omega, by omega⟩, by rw [List.length_take]; omega, ?_⟩
        refine brP_intro (fun e => ?_) (fun e => ?_)
        · have e : (rungE s (rs.take i) (getE k45 rs i) != 0) = true := e
          rw [e] at h0
          exact h0 _ rfl
        · have e : (rungE s (rs.take i) (getE k45 rs i) != 0) = false := e
          rw [e] at h0 h1
          rw [wrap_in (by omega) (by omega)]
          exact ih k (i + 1) (by omega) (by omega) h0 h1
    · have d : ¬ i < rs.length := by simpa using d
      obtain rfl : k = 0 := by omega
      exact h1 rfl
theorem loop23b (rs : List Rung) (a b c : Int) (R0 : Int → Int → Prop) (R1 : Int → Int → Int → List Rung → Prop) (hl : rs.length ≤ 1000000) :
    ∀ n k (i : Nat), k < n → i + k = rs.length → (∀ x, chk2 rs i k = some x → R0 x.1 x.2) → (chk2 rs i k = none → R1 a b c rs) →
      G23_3 R0 R1 n rs rs.length i a b c rs := by
  intro n
  induction n with
  | zero => intro k i h; omega
  | succ n ih =>
    intro k i hk hi h0 h1
    refine brP_intro (fun d => ?_) (fun d => ?_)
    · have d : i < rs.length := by simpa using d
      cases k with
      | zero => omega
      | succ k =>
        simp only [chk2] at h0 h1
        have hw : IntKind.i64.wrap ((i : Int) + 1) = ((i + 1 : Nat) : Int) := by rw [wrap_in (by omega) (by omega)]; omega
        have hb : (ByteArray.toList (getE k45 rs i).snd.snd.snd != ByteArray.toList (ByteArray.mk #[])) = !decide (Rung.jump (getE k45 rs i) = str0) := by rw [bne, strEq]
        have e2 : List.take rs.length rs = rs := List.take_length
        simp only [hw, Int.toNat_natCast, e2]
        refine ⟨⟨by omega, by omega⟩, ?_⟩
        refine brP_intro (fun e => ?_) (fun e => ?_)
        · rw [hb] at e
          rw [e] at h0 h1
          refine ⟨⟨by omega, by omega, by omega⟩, by rw [List.length_drop]; omega, ?_⟩
          refine brP_intro (fun f => ?_) (fun f => ?_)
          · have f : (!found rs i) = true := f
            rw [f] at h0
            exact h0 _ rfl
          · have f : (!found rs i) = false := f
            rw [f] at h0 h1
            exact ih k (i + 1) (by omega) (by omega) h0 h1
        · rw [hb] at e
          rw [e] at h0 h1
          exact ih k (i + 1) (by omega) (by omega) h0 h1
    · have d : ¬ i < rs.length := by simpa using d
      obtain rfl : k = 0 := by omega
      exact h1 rfl
theorem spec23 : SpecOk Try.prog 23 sp23 := S1.ok tt_ok mixed env23 Try.func23 fun (l : Lad) Q h => ok23 Q l <| by
  unfold F23 checkL at h
  refine brP_intro (fun c => by rw [c] at h; exact h) (fun c => ?_)
  rw [c] at h
  simp only [cond_false] at h
  refine brP_intro (fun d => ?_) (fun d => ?_)
  · have d : decide ((Lad.rungs l).length > 64) = true := by
      have d2 : ((Lad.rungs l).length : Int) > 64 := by simpa using d
      simp; omega
    rw [d] at h; exact h
  have d' : decide ((Lad.rungs l).length > 64) = false := by
    have d2 : ¬ ((Lad.rungs l).length : Int) > 64 := by simpa using d
    simp; omega
  rw [d'] at h
  simp only [cond_false] at h
  have hlen : (Lad.rungs l).length ≤ 64 := by simpa using d'
  refine ⟨(Lad.rungs l).length + 1, loop23a (sizesOf l) (Lad.rungs l) l.1 l.2.1 l.2.2.1 _ _ (by omega) _ (Lad.rungs l).length 0 (by omega) (by omega) (fun x hx => ?_) (fun hx => ?_)⟩
  · rw [hx] at h; exact h
  · rw [hx] at h
    simp only at h
    refine ⟨(Lad.rungs l).length + 1, loop23b (Lad.rungs l) l.1 l.2.1 l.2.2.1 _ _ (by omega) _ (Lad.rungs l).length 0 (by omega) (by omega) (fun x hx => ?_) (fun hx => ?_)⟩
    · rw [hx] at h; exact h
    · rw [hx] at h; exact h
end Go.AM
