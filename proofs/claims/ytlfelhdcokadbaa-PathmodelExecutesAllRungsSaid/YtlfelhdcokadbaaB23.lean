/- Functions of the program. Conditions: none. -/
import Derived.Test.YtlfelhdcokadbaaD2
import Derived.Test.YtlfelhdcokadbaaB3
import Derived.Test.YtlfelhdcokadbaaB22
set_option linter.all false
namespace Go.AM
open Go.Proofs
-- f4 "busbar/busbarlaw20.PathmodelExecutesAllRungs" ['24', '27', '25'] -> ['4']
def A4 : Ann := [(0, [2, 3, 4, 8, 10, 57, 58, 59], [2, 3, 4], [6])]
def E4 : Env := [(8, sp8), (9, sp9), (11, sp11), (13, sp13)]
def I4 (p0 : (k23 : K).ty) (p1 : (k26 : K).ty) (p2 : ((.slice 4 .bool) : K).ty) : List V1 := [nfK k23 p0, nfK k26 p1, nfK (.slice 4 .bool) p2]
noncomputable def L4_0 : Code := Code.a (Code.a (Code.b (Code.a (Code.b (Code.b (Code.b (Code.b (Code.b (Code.b (Func.code Try.f4))))))))))
def S4_0 (l2 : List (K.ty K.bool)) (l8 : List (K.ty K.bool)) (b10 : Bool) (l57 : List (K.ty k45)) (x58 : Int) (x59 : Int) (xh0_0 : Int) (xh0_1 : Int) (xh0_2 : Int) (lh0_3 : List (K.ty k45)) (lh1_0 : List (K.ty K.bool)) (lh1_1 : List (K.ty K.bool)) (lh1_2 : List (K.ty K.bool)) : St := sp (132 : Nat) [((2 : Nat), V.v (V1.one (Lf.sl (4 : TypeId) K.bool l2))), ((3 : Nat), V.v (V1.one (Lf.ptr (nat_lit 0) (nat_lit 0)))), ((4 : Nat), V.v (V1.one (Lf.ptr (nat_lit 1) (nat_lit 0)))), ((8 : Nat), V.v (V1.one (Lf.sl (4 : TypeId) K.bool l8))), ((10 : Nat), V.v (V1.one (Lf.bool b10))), ((57 : Nat), V.v (V1.one (Lf.sl (46 : TypeId) k45 l57))), ((58 : Nat), V.v (V1.one (Lf.int IntKind.i64 x58))), ((59 : Nat), V.v (V1.one (Lf.int IntKind.i64 x59)))] [Ob.box (24 : Nat) [Lf.int IntKind.i64 xh0_0, Lf.int IntKind.i64 xh0_1, Lf.int IntKind.i64 xh0_2, Lf.sl (46 : TypeId) k45 lh0_3], Ob.box (27 : Nat) [Lf.sl (4 : TypeId) K.bool lh1_0, Lf.sl (4 : TypeId) K.bool lh1_1, Lf.sl (4 : TypeId) K.bool lh1_2]]
def X4_0_0 (b6 : Bool) : St := sp (132 : Nat) [((6 : Nat), V.v (V1.one (Lf.bool b6)))] []
def X4_0_1 (l2 : List (K.ty K.bool)) (xh0_0 : Int) (xh0_1 : Int) (xh0_2 : Int) (lh0_3 : List (K.ty k45)) (lh1_0 : List (K.ty K.bool)) (lh1_1 : List (K.ty K.bool)) (lh1_2 : List (K.ty K.bool)) : St := sp (132 : Nat) [((2 : Nat), V.v (V1.one (Lf.sl (4 : TypeId) K.bool l2))), ((3 : Nat), V.v (V1.one (Lf.ptr (nat_lit 0) (nat_lit 0)))), ((4 : Nat), V.v (V1.one (Lf.ptr (nat_lit 1) (nat_lit 0))))] [Ob.box (24 : Nat) [Lf.int IntKind.i64 xh0_0, Lf.int IntKind.i64 xh0_1, Lf.int IntKind.i64 xh0_2, Lf.sl (46 : TypeId) k45 lh0_3], Ob.box (27 : Nat) [Lf.sl (4 : TypeId) K.bool lh1_0, Lf.sl (4 : TypeId) K.bool lh1_1, Lf.sl (4 : TypeId) K.bool lh1_2]]
def t4_0 (again : List (K.ty K.bool) → List (K.ty K.bool) → Bool → List (K.ty k45) → Int → Int → Int → Int → Int → List (K.ty k45) → List (K.ty K.bool) → List (K.ty K.bool) → List (K.ty K.bool) → Prop) (R0 : Bool → Prop) (R1 : List (K.ty K.bool) → Int → Int → Int → List (K.ty k45) → List (K.ty K.bool) → List (K.ty K.bool) → List (K.ty K.bool) → Prop) (l2 : List (K.ty K.bool)) (l8 : List (K.ty K.bool)) (b10 : Bool) (l57 : List (K.ty k45)) (x58 : Int) (x59 : Int) (xh0_0 : Int) (xh0_1 : Int) (xh0_2 : Int) (lh0_3 : List (K.ty k45)) (lh1_0 : List (K.ty K.bool)) (lh1_1 : List (K.ty K.bool)) (lh1_2 : List (K.ty K.bool)) : Prop :=
  brP (decide (x59 < x58)) (bound x59 (List.length l57) ∧ bound x59 (List.length l8) ∧ brP (!getE K.bool l8 x59) (brP (!b10) (R0 false) (brP (ByteArray.toList (getE k45 l57 x59).fst != ByteArray.toList (ByteArray.mk #[])) (bound x59 (List.length l8) ∧ brP (getE K.bool l8 x59) (brP (ByteArray.toList (getE k45 l57 x59).snd.snd.snd != ByteArray.toList (ByteArray.mk #[])) (bound x59 (List.length l8) ∧ again l2 l8 (getE K.bool l8 x59) l57 x58 (IntKind.wrap IntKind.i64 (x59 + (1 : Int))) xh0_0 xh0_1 xh0_2 lh0_3 lh1_0 lh1_1 lh1_2) (again l2 l8 false l57 x58 (IntKind.wrap IntKind.i64 (x59 + (1 : Int))) xh0_0 xh0_1 xh0_2 lh0_3 lh1_0 lh1_1 lh1_2)) (brP b10 (again l2 l8 true l57 x58 (IntKind.wrap IntKind.i64 (x59 + (1 : Int))) xh0_0 xh0_1 xh0_2 lh0_3 lh1_0 lh1_1 lh1_2) (brP (ByteArray.toList (getE k45 l57 x59).snd.snd.snd != ByteArray.toList (ByteArray.mk #[])) (bound x59 (List.length l8) ∧ again l2 l8 (getE K.bool l8 x59) l57 x58 (IntKind.wrap IntKind.i64 (x59 + (1 : Int))) xh0_0 xh0_1 xh0_2 lh0_3 lh1_0 lh1_1 lh1_2) (again l2 l8 false l57 x58 (IntKind.wrap IntKind.i64 (x59 + (1 : Int))) xh0_0 xh0_1 xh0_2 lh0_3 lh1_0 lh1_1 lh1_2)))) (brP b10 (again l2 l8 true l57 x58 (IntKind.wrap IntKind.i64 (x59 + (1 : Int))) xh0_0 xh0_1 xh0_2 lh0_3 lh1_0 lh1_1 lh1_2) (brP (ByteArray.toList (getE k45 l57 x59).snd.snd.snd != ByteArray.toList (ByteArray.mk #[])) (bound x59 (List.length l8) ∧ again l2 l8 (getE K.bool l8 x59) l57 x58 (IntKind.wrap IntKind.i64 (x59 + (1 : Int))) xh0_0 xh0_1 xh0_2 lh0_3 lh1_0 lh1_1 lh1_2) (again l2 l8 false l57 x58 (IntKind.wrap IntKind.i64 (x59 + (1 : Int))) xh0_0 xh0_1 xh0_2 lh0_3 lh1_0 lh1_1 lh1_2))))) (brP (ByteArray.toList (getE k45 l57 x59).fst != ByteArray.toList (ByteArray.mk #[])) (bound x59 (List.length l8) ∧ brP (getE K.bool l8 x59) (brP (ByteArray.toList (getE k45 l57 x59).snd.snd.snd != ByteArray.toList (ByteArray.mk #[])) (bound x59 (List.length l8) ∧ again l2 l8 (getE K.bool l8 x59) l57 x58 (IntKind.wrap IntKind.i64 (x59 + (1 : Int))) xh0_0 xh0_1 xh0_2 lh0_3 lh1_0 lh1_1 lh1_2) (again l2 l8 false l57 x58 (IntKind.wrap IntKind.i64 (x59 + (1 : Int))) xh0_0 xh0_1 xh0_2 lh0_3 lh1_0 lh1_1 lh1_2)) (brP b10 (again l2 l8 true l57 x58 (IntKind.wrap IntKind.i64 (x59 + (1 : Int))) xh0_0 xh0_1 xh0_2 lh0_3 lh1_0 lh1_1 lh1_2) (brP (ByteArray.toList (getE k45 l57 x59).snd.snd.snd != ByteArray.toList (ByteArray.mk #[])) (bound x59 (List.length l8) ∧ again l2 l8 (getE K.bool l8 x59) l57 x58 (IntKind.wrap IntKind.i64 (x59 + (1 : Int))) xh0_0 xh0_1 xh0_2 lh0_3 lh1_0 lh1_1 lh1_2) (again l2 l8 false l57 x58 (IntKind.wrap IntKind.i64 (x59 + (1 : Int))) xh0_0 xh0_1 xh0_2 lh0_3 lh1_0 lh1_1 lh1_2)))) (brP b10 (again l2 l8 true l57 x58 (IntKind.wrap IntKind.i64 (x59 + (1 : Int))) xh0_0 xh0_1 xh0_2 lh0_3 lh1_0 lh1_1 lh1_2) (brP (ByteArray.toList (getE k45 l57 x59).snd.snd.snd != ByteArray.toList (ByteArray.mk #[])) (bound x59 (List.length l8) ∧ again l2 l8 (getE K.bool l8 x59) l57 x58 (IntKind.wrap IntKind.i64 (x59 + (1 : Int))) xh0_0 xh0_1 xh0_2 lh0_3 lh1_0 lh1_1 lh1_2) (again l2 l8 false l57 x58 (IntKind.wrap IntKind.i64 (x59 + (1 : Int))) xh0_0 xh0_1 xh0_2 lh0_3 lh1_0 lh1_1 lh1_2))))) (R1 l2 xh0_0 xh0_1 xh0_2 lh0_3 lh1_0 lh1_1 lh1_2)
theorem t4_0_mono {again : List (K.ty K.bool) → List (K.ty K.bool) → Bool → List (K.ty k45) → Int → Int → Int → Int → Int → List (K.ty k45) → List (K.ty K.bool) → List (K.ty K.bool) → List (K.ty K.bool) → Prop} {R0 : Bool → Prop} {R1 : List (K.ty K.bool) → Int → Int → Int → List (K.ty k45) → List (K.ty K.bool) → List (K.ty K.bool) → List (K.ty K.bool) → Prop} {again' : List (K.ty K.bool) → List (K.ty K.bool) → Bool → List (K.ty k45) → Int → Int → Int → Int → Int → List (K.ty k45) → List (K.ty K.bool) → List (K.ty K.bool) → List (K.ty K.bool) → Prop} {R0' : Bool → Prop} {R1' : List (K.ty K.bool) → Int → Int → Int → List (K.ty k45) → List (K.ty K.bool) → List (K.ty K.bool) → List (K.ty K.bool) → Prop} (ha : ∀ l2 l8 b10 l57 x58 x59 xh0_0 xh0_1 xh0_2 lh0_3 lh1_0 lh1_1 lh1_2, again l2 l8 b10 l57 x58 x59 xh0_0 xh0_1 xh0_2 lh0_3 lh1_0 lh1_1 lh1_2 → again' l2 l8 b10 l57 x58 x59 xh0_0 xh0_1 xh0_2 lh0_3 lh1_0 lh1_1 lh1_2) (hr0 : ∀ b6, R0 b6 → R0' b6) (hr1 : ∀ l2 xh0_0 xh0_1 xh0_2 lh0_3 lh1_0 lh1_1 lh1_2, R1 l2 xh0_0 xh0_1 xh0_2 lh0_3 lh1_0 lh1_1 lh1_2 → R1' l2 xh0_0 xh0_1 xh0_2 lh0_3 lh1_0 lh1_1 lh1_2) (l2 : List (K.ty K.bool)) (l8 : List (K.ty K.bool)) (b10 : Bool) (l57 : List (K.ty k45)) (x58 : Int) (x59 : Int) (xh0_0 : Int) (xh0_1 : Int) (xh0_2 : Int) (lh0_3 : List (K.ty k45)) (lh1_0 : List (K.ty K.bool)) (lh1_1 : List (K.ty K.bool)) (lh1_2 : List (K.ty K.bool)) :
    t4_0 again R0 R1 l2 l8 b10 l57 x58 x59 xh0_0 xh0_1 xh0_2 lh0_3 lh1_0 lh1_1 lh1_2 → t4_0 again' R0' R1' l2 l8 b10 l57 x58 x59 xh0_0 xh0_1 xh0_2 lh0_3 lh1_0 lh1_1 lh1_2 :=
  brM (andM (id) (andM (id) (brM (brM (hr0 _) (brM (andM (id) (brM (brM (andM (id) (ha _ _ _ _ _ _ _ _ _ _ _ _ _)) (ha _ _ _ _ _ _ _ _ _ _ _ _ _)) (brM (ha _ _ _ _ _ _ _ _ _ _ _ _ _) (brM (andM (id) (ha _ _ _ _ _ _ _ _ _ _ _ _ _)) (ha _ _ _ _ _ _ _ _ _ _ _ _ _))))) (brM (ha _ _ _ _ _ _ _ _ _ _ _ _ _) (brM (andM (id) (ha _ _ _ _ _ _ _ _ _ _ _ _ _)) (ha _ _ _ _ _ _ _ _ _ _ _ _ _))))) (brM (andM (id) (brM (brM (andM (id) (ha _ _ _ _ _ _ _ _ _ _ _ _ _)) (ha _ _ _ _ _ _ _ _ _ _ _ _ _)) (brM (ha _ _ _ _ _ _ _ _ _ _ _ _ _) (brM (andM (id) (ha _ _ _ _ _ _ _ _ _ _ _ _ _)) (ha _ _ _ _ _ _ _ _ _ _ _ _ _))))) (brM (ha _ _ _ _ _ _ _ _ _ _ _ _ _) (brM (andM (id) (ha _ _ _ _ _ _ _ _ _ _ _ _ _)) (ha _ _ _ _ _ _ _ _ _ _ _ _ _))))))) (hr1 _ _ _ _ _ _ _ _)
theorem t4_0_eq (n : Nat) (Q : Ex → St → Prop) (l2 : List (K.ty K.bool)) (l8 : List (K.ty K.bool)) (b10 : Bool) (l57 : List (K.ty k45)) (x58 : Int) (x59 : Int) (xh0_0 : Int) (xh0_1 : Int) (xh0_2 : Int) (lh0_3 : List (K.ty k45)) (lh1_0 : List (K.ty K.bool)) (lh1_1 : List (K.ty K.bool)) (lh1_2 : List (K.ty K.bool)) :
    t4_0 (fun l2 l8 b10 l57 x58 x59 xh0_0 xh0_1 xh0_2 lh0_3 lh1_0 lh1_1 lh1_2 => loopP (awp tt E4 A4 L4_0 0) ([(2 : Nat), (3 : Nat), (4 : Nat), (8 : Nat), (10 : Nat), (57 : Nat), (58 : Nat), (59 : Nat)], [(2 : Nat), (3 : Nat), (4 : Nat)], [(6 : Nat)]) n (S4_0 l2 l8 b10 l57 x58 x59 xh0_0 xh0_1 xh0_2 lh0_3 lh1_0 lh1_1 lh1_2) Q) (fun b6 => Q (Ex.ret) (X4_0_0 b6)) (fun l2 xh0_0 xh0_1 xh0_2 lh0_3 lh1_0 lh1_1 lh1_2 => Q (Ex.exit (nat_lit 0)) (X4_0_1 l2 xh0_0 xh0_1 xh0_2 lh0_3 lh1_0 lh1_1 lh1_2)) l2 l8 b10 l57 x58 x59 xh0_0 xh0_1 xh0_2 lh0_3 lh1_0 lh1_1 lh1_2 = (loopP (awp tt E4 A4 L4_0 0) ([(2 : Nat), (3 : Nat), (4 : Nat), (8 : Nat), (10 : Nat), (57 : Nat), (58 : Nat), (59 : Nat)], [(2 : Nat), (3 : Nat), (4 : Nat)], [(6 : Nat)]) (n + 1) (S4_0 l2 l8 b10 l57 x58 x59 xh0_0 xh0_1 xh0_2 lh0_3 lh1_0 lh1_1 lh1_2) Q) := by kernel_rfl
def G4_0 (R0 : Bool → Prop) (R1 : List (K.ty K.bool) → Int → Int → Int → List (K.ty k45) → List (K.ty K.bool) → List (K.ty K.bool) → List (K.ty K.bool) → Prop) : Nat → List (K.ty K.bool) → List (K.ty K.bool) → Bool → List (K.ty k45) → Int → Int → Int → Int → Int → List (K.ty k45) → List (K.ty K.bool) → List (K.ty K.bool) → List (K.ty K.bool) → Prop
  | 0, _, _, _, _, _, _, _, _, _, _, _, _, _ => False
  | n + 1, l2, l8, b10, l57, x58, x59, xh0_0, xh0_1, xh0_2, lh0_3, lh1_0, lh1_1, lh1_2 => t4_0 (G4_0 R0 R1 n) R0 R1 l2 l8 b10 l57 x58 x59 xh0_0 xh0_1 xh0_2 lh0_3 lh1_0 lh1_1 lh1_2
theorem T4_0 {R0 : Bool → Prop} {R1 : List (K.ty K.bool) → Int → Int → Int → List (K.ty k45) → List (K.ty K.bool) → List (K.ty K.bool) → List (K.ty K.bool) → Prop} (Q : Ex → St → Prop) (hr0 : ∀ b6, R0 b6 → Of (Q (Ex.ret) (X4_0_0 b6))) (hr1 : ∀ l2 xh0_0 xh0_1 xh0_2 lh0_3 lh1_0 lh1_1 lh1_2, R1 l2 xh0_0 xh0_1 xh0_2 lh0_3 lh1_0 lh1_1 lh1_2 → Of (Q (Ex.exit (nat_lit 0)) (X4_0_1 l2 xh0_0 xh0_1 xh0_2 lh0_3 lh1_0 lh1_1 lh1_2))) : ∀ (n : Nat) (l2 : List (K.ty K.bool)) (l8 : List (K.ty K.bool)) (b10 : Bool) (l57 : List (K.ty k45)) (x58 : Int) (x59 : Int) (xh0_0 : Int) (xh0_1 : Int) (xh0_2 : Int) (lh0_3 : List (K.ty k45)) (lh1_0 : List (K.ty K.bool)) (lh1_1 : List (K.ty K.bool)) (lh1_2 : List (K.ty K.bool)), G4_0 R0 R1 n l2 l8 b10 l57 x58 x59 xh0_0 xh0_1 xh0_2 lh0_3 lh1_0 lh1_1 lh1_2 → Of (loopP (awp tt E4 A4 L4_0 0) ([(2 : Nat), (3 : Nat), (4 : Nat), (8 : Nat), (10 : Nat), (57 : Nat), (58 : Nat), (59 : Nat)], [(2 : Nat), (3 : Nat), (4 : Nat)], [(6 : Nat)]) n (S4_0 l2 l8 b10 l57 x58 x59 xh0_0 xh0_1 xh0_2 lh0_3 lh1_0 lh1_1 lh1_2) Q) := by
  intro n
  induction n with
  | zero => intro l2 l8 b10 l57 x58 x59 xh0_0 xh0_1 xh0_2 lh0_3 lh1_0 lh1_1 lh1_2 h; exact h.elim
  | succ n ih =>
    intro l2 l8 b10 l57 x58 x59 xh0_0 xh0_1 xh0_2 lh0_3 lh1_0 lh1_1 lh1_2 h
    exact kcO (t4_0_eq n Q l2 l8 b10 l57 x58 x59 xh0_0 xh0_1 xh0_2 lh0_3 lh1_0 lh1_1 lh1_2) (t4_0_mono (fun _ _ _ _ _ _ _ _ _ _ _ _ _ h => (ih _ _ _ _ _ _ _ _ _ _ _ _ _ h).out) (fun _ h => (hr0 _ h).out) (fun _ _ _ _ _ _ _ _ h => (hr1 _ _ _ _ _ _ _ _ h).out) l2 l8 b10 l57 x58 x59 xh0_0 xh0_1 xh0_2 lh0_3 lh1_0 lh1_1 lh1_2 h)
def t4 (Q : List V1 → List Ob → Prop) (lp0 : K.ty k23 → K.ty k26 → K.ty (K.slice (4 : TypeId) K.bool) → Int → Prop) (lp1 : K.ty k23 → K.ty k26 → K.ty (K.slice (4 : TypeId) K.bool) → Int → Prop) (p0 : K.ty k23) (p1 : K.ty k26) (p2 : K.ty (K.slice (4 : TypeId) K.bool)) : Prop :=
  (wideL p0 ∧ List.length (List.set (List.replicate (1 : Nat) (K.dflt (K.slice (4 : TypeId) K.bool))) (0 : Nat) p2) ≤ (4611686018427387904 : Nat)) ∧ ∀ (v3 : Int), isBit v3 → (v3 = (0 : Int) → okIn p0 p1 (List.set (List.replicate (1 : Nat) (K.dflt (K.slice (4 : TypeId) K.bool))) (0 : Nat) p2)) → brP (decide (v3 > (0 : Int))) (Q [V1.one (Lf.bool true)] []) (small p1 ∧ brP ((scanL p0 p2 p1).snd.snd != (0 : Int)) (Q [V1.one (Lf.bool ((↑(List.length (scanL p0 p2 p1).snd.fst) : Int) == (0 : Int)))] []) (brP ((↑(List.length (scanL p0 p2 p1).snd.fst) : Int) != (↑(List.length p0.snd.snd.snd) : Int)) (Q [V1.one (Lf.bool false)] []) (brP (decide ((↑(List.length (scanL p0 p2 p1).snd.fst) : Int) > (0 : Int))) (bound (0 : Int) (List.length (scanL p0 p2 p1).snd.fst) ∧ brP (!getE K.bool (scanL p0 p2 p1).snd.fst (0 : Int)) (Q [V1.one (Lf.bool false)] []) (lp0 p0 p1 p2 v3)) (lp1 p0 p1 p2 v3))))
theorem t4_mono {Q : List V1 → List Ob → Prop} {Q' : List V1 → List Ob → Prop} {lp0 : K.ty k23 → K.ty k26 → K.ty (K.slice (4 : TypeId) K.bool) → Int → Prop} {lp1 : K.ty k23 → K.ty k26 → K.ty (K.slice (4 : TypeId) K.bool) → Int → Prop} {lp0' : K.ty k23 → K.ty k26 → K.ty (K.slice (4 : TypeId) K.bool) → Int → Prop} {lp1' : K.ty k23 → K.ty k26 → K.ty (K.slice (4 : TypeId) K.bool) → Int → Prop} (hq : ∀ r h, Q r h → Q' r h) (hlp0 : ∀ p0 p1 p2 v3, lp0 p0 p1 p2 v3 → lp0' p0 p1 p2 v3) (hlp1 : ∀ p0 p1 p2 v3, lp1 p0 p1 p2 v3 → lp1' p0 p1 p2 v3) (p0 : K.ty k23) (p1 : K.ty k26) (p2 : K.ty (K.slice (4 : TypeId) K.bool)) :
    t4 Q lp0 lp1 p0 p1 p2 → t4 Q' lp0' lp1' p0 p1 p2 :=
  andM (andM (id) (id)) (fun hh x => ap (hh x) (fun hh x => ap (hh x) (fun hh x => ap (hh x) (brM (hq _ _) (andM (id) (brM (hq _ _) (brM (hq _ _) (brM (andM (id) (brM (hq _ _) (hlp0 _ _ _ _))) (hlp1 _ _ _ _)))))))))
theorem t4_eq (Q : List V1 → List Ob → Prop) (p0 : K.ty k23) (p1 : K.ty k26) (p2 : K.ty (K.slice (4 : TypeId) K.bool)) :
    t4 Q (fun p0 p1 p2 v3 => ∃ m, loopP (awp tt E4 A4 L4_0 0) ([(2 : Nat), (3 : Nat), (4 : Nat), (8 : Nat), (10 : Nat), (57 : Nat), (58 : Nat), (59 : Nat)], [(2 : Nat), (3 : Nat), (4 : Nat)], [(6 : Nat)]) m (S4_0 (p2) ((scanL p0 p2 p1).snd.fst) (false) (p0.snd.snd.snd) ((↑(List.length p0.snd.snd.snd) : Int)) ((0 : Int)) (p0.fst) (p0.snd.fst) (p0.snd.snd.fst) (p0.snd.snd.snd) (p1.fst) (p1.snd.fst) (p1.snd.snd)) (blkC (0 : Nat) (seqC (awp tt E4 A4 (Code.b (Code.b (Code.b (Code.b (Code.b (Code.b (Code.b (Func.code Try.f4)))))))) (0 : Nat)) (topC tt Try.f4 0 Q)))) (fun p0 p1 p2 v3 => ∃ m, loopP (awp tt E4 A4 L4_0 0) ([(2 : Nat), (3 : Nat), (4 : Nat), (8 : Nat), (10 : Nat), (57 : Nat), (58 : Nat), (59 : Nat)], [(2 : Nat), (3 : Nat), (4 : Nat)], [(6 : Nat)]) m (S4_0 (p2) ((scanL p0 p2 p1).snd.fst) (false) (p0.snd.snd.snd) ((↑(List.length p0.snd.snd.snd) : Int)) ((0 : Int)) (p0.fst) (p0.snd.fst) (p0.snd.snd.fst) (p0.snd.snd.snd) (p1.fst) (p1.snd.fst) (p1.snd.snd)) (blkC (0 : Nat) (seqC (awp tt E4 A4 (Code.b (Code.b (Code.b (Code.b (Code.b (Code.b (Code.b (Func.code Try.f4)))))))) (0 : Nat)) (topC tt Try.f4 0 Q)))) p0 p1 p2 = (afun tt E4 A4 Try.f4 (I4 p0 p1 p2) [] Q) := by kernel_rfl
def t4c1x1 (Q : List V1 → List Ob → Prop) (p0 : K.ty k23) (p1 : K.ty k26) (p2 : K.ty (K.slice (4 : TypeId) K.bool)) (v3 : Int) (l2e4 : List (K.ty K.bool)) (xh0_0e4 : Int) (xh0_1e4 : Int) (xh0_2e4 : Int) (lh0_3e4 : List (K.ty k45)) (lh1_0e4 : List (K.ty K.bool)) (lh1_1e4 : List (K.ty K.bool)) (lh1_2e4 : List (K.ty K.bool)) : Prop :=
  small (lh1_0e4, lh1_1e4, []) ∧ brP ((scanL (xh0_0e4, xh0_1e4, xh0_2e4, []) l2e4 (lh1_0e4, lh1_1e4, [])).snd.snd == (0 : Int)) (brP ((↑(List.length (scanL (xh0_0e4, xh0_1e4, xh0_2e4, []) l2e4 (lh1_0e4, lh1_1e4, [])).snd.fst) : Int) == (0 : Int)) (List.length (scanL (xh0_0e4, xh0_1e4, xh0_2e4, []) l2e4 (lh1_0e4, lh1_1e4, [])).fst.fst ≤ (4611686018427387904 : Nat) ∧ List.length (scanL (xh0_0e4, xh0_1e4, xh0_2e4, []) l2e4 (lh1_0e4, lh1_1e4, [])).fst.snd.fst ≤ (4611686018427387904 : Nat) ∧ List.length (scanL (xh0_0e4, xh0_1e4, xh0_2e4, []) l2e4 (lh1_0e4, lh1_1e4, [])).fst.snd.snd ≤ (4611686018427387904 : Nat) ∧ Q [V1.one (Lf.bool (decide ((scanL (xh0_0e4, xh0_1e4, xh0_2e4, []) l2e4 (lh1_0e4, lh1_1e4, [])).fst = (lh1_0e4, lh1_1e4, []))))] []) (Q [V1.one (Lf.bool false)] [])) (Q [V1.one (Lf.bool false)] [])
theorem t4c1x1_mono {Q : List V1 → List Ob → Prop} {Q' : List V1 → List Ob → Prop} (hq : ∀ r h, Q r h → Q' r h) (p0 : K.ty k23) (p1 : K.ty k26) (p2 : K.ty (K.slice (4 : TypeId) K.bool)) (v3 : Int) (l2e4 : List (K.ty K.bool)) (xh0_0e4 : Int) (xh0_1e4 : Int) (xh0_2e4 : Int) (lh0_3e4 : List (K.ty k45)) (lh1_0e4 : List (K.ty K.bool)) (lh1_1e4 : List (K.ty K.bool)) (lh1_2e4 : List (K.ty K.bool)) :
    t4c1x1 Q p0 p1 p2 v3 l2e4 xh0_0e4 xh0_1e4 xh0_2e4 lh0_3e4 lh1_0e4 lh1_1e4 lh1_2e4 → t4c1x1 Q' p0 p1 p2 v3 l2e4 xh0_0e4 xh0_1e4 xh0_2e4 lh0_3e4 lh1_0e4 lh1_1e4 lh1_2e4 :=
  andM (id) (brM (brM (andM (id) (andM (id) (andM (id) (hq _ _)))) (hq _ _)) (hq _ _))
theorem t4c1x1_eq (Q : List V1 → List Ob → Prop) (p0 : K.ty k23) (p1 : K.ty k26) (p2 : K.ty (K.slice (4 : TypeId) K.bool)) (v3 : Int) (l2e4 : List (K.ty K.bool)) (xh0_0e4 : Int) (xh0_1e4 : Int) (xh0_2e4 : Int) (lh0_3e4 : List (K.ty k45)) (lh1_0e4 : List (K.ty K.bool)) (lh1_1e4 : List (K.ty K.bool)) (lh1_2e4 : List (K.ty K.bool)) :
    t4c1x1 Q p0 p1 p2 v3 l2e4 xh0_0e4 xh0_1e4 xh0_2e4 lh0_3e4 lh1_0e4 lh1_1e4 lh1_2e4 = ((blkC (0 : Nat) (seqC (awp tt E4 A4 (Code.b (Code.b (Code.b (Code.b (Code.b (Code.b (Code.b (Func.code Try.f4)))))))) (0 : Nat)) (topC tt Try.f4 0 Q))) (Ex.exit (nat_lit 0)) (X4_0_1 l2e4 xh0_0e4 xh0_1e4 xh0_2e4 lh0_3e4 lh1_0e4 lh1_1e4 lh1_2e4)) := by kernel_rfl
def t4c1x0 (Q : List V1 → List Ob → Prop) (p0 : K.ty k23) (p1 : K.ty k26) (p2 : K.ty (K.slice (4 : TypeId) K.bool)) (v3 : Int) (b6e4 : Bool) : Prop :=
  Q [V1.one (Lf.bool b6e4)] []
theorem t4c1x0_mono {Q : List V1 → List Ob → Prop} {Q' : List V1 → List Ob → Prop} (hq : ∀ r h, Q r h → Q' r h) (p0 : K.ty k23) (p1 : K.ty k26) (p2 : K.ty (K.slice (4 : TypeId) K.bool)) (v3 : Int) (b6e4 : Bool) :
    t4c1x0 Q p0 p1 p2 v3 b6e4 → t4c1x0 Q' p0 p1 p2 v3 b6e4 :=
  hq _ _
theorem t4c1x0_eq (Q : List V1 → List Ob → Prop) (p0 : K.ty k23) (p1 : K.ty k26) (p2 : K.ty (K.slice (4 : TypeId) K.bool)) (v3 : Int) (b6e4 : Bool) :
    t4c1x0 Q p0 p1 p2 v3 b6e4 = ((blkC (0 : Nat) (seqC (awp tt E4 A4 (Code.b (Code.b (Code.b (Code.b (Code.b (Code.b (Code.b (Func.code Try.f4)))))))) (0 : Nat)) (topC tt Try.f4 0 Q))) (Ex.ret) (X4_0_0 b6e4)) := by kernel_rfl
def t4c0x1 (Q : List V1 → List Ob → Prop) (p0 : K.ty k23) (p1 : K.ty k26) (p2 : K.ty (K.slice (4 : TypeId) K.bool)) (v3 : Int) (l2e4 : List (K.ty K.bool)) (xh0_0e4 : Int) (xh0_1e4 : Int) (xh0_2e4 : Int) (lh0_3e4 : List (K.ty k45)) (lh1_0e4 : List (K.ty K.bool)) (lh1_1e4 : List (K.ty K.bool)) (lh1_2e4 : List (K.ty K.bool)) : Prop :=
  small (lh1_0e4, lh1_1e4, []) ∧ brP ((scanL (xh0_0e4, xh0_1e4, xh0_2e4, []) l2e4 (lh1_0e4, lh1_1e4, [])).snd.snd == (0 : Int)) (brP ((↑(List.length (scanL (xh0_0e4, xh0_1e4, xh0_2e4, []) l2e4 (lh1_0e4, lh1_1e4, [])).snd.fst) : Int) == (0 : Int)) (List.length (scanL (xh0_0e4, xh0_1e4, xh0_2e4, []) l2e4 (lh1_0e4, lh1_1e4, [])).fst.fst ≤ (4611686018427387904 : Nat) ∧ List.length (scanL (xh0_0e4, xh0_1e4, xh0_2e4, []) l2e4 (lh1_0e4, lh1_1e4, [])).fst.snd.fst ≤ (4611686018427387904 : Nat) ∧ List.length (scanL (xh0_0e4, xh0_1e4, xh0_2e4, []) l2e4 (lh1_0e4, lh1_1e4, [])).fst.snd.snd ≤ (4611686018427387904 : Nat) ∧ Q [V1.one (Lf.bool (decide ((scanL (xh0_0e4, xh0_1e4, xh0_2e4, []) l2e4 (lh1_0e4, lh1_1e4, [])).fst = (lh1_0e4, lh1_1e4, []))))] []) (Q [V1.one (Lf.bool false)] [])) (Q [V1.one (Lf.bool false)] [])
theorem t4c0x1_mono {Q : List V1 → List Ob → Prop} {Q' : List V1 → List Ob → Prop} (hq : ∀ r h, Q r h → Q' r h) (p0 : K.ty k23) (p1 : K.ty k26) (p2 : K.ty (K.slice (4 : TypeId) K.bool)) (v3 : Int) (l2e4 : List (K.ty K.bool)) (xh0_0e4 : Int) (xh0_1e4 : Int) (xh0_2e4 : Int) (lh0_3e4 : List (K.ty k45)) (lh1_0e4 : List (K.ty K.bool)) (lh1_1e4 : List (K.ty K.bool)) (lh1_2e4 : List (K.ty K.bool)) :
    t4c0x1 Q p0 p1 p2 v3 l2e4 xh0_0e4 xh0_1e4 xh0_2e4 lh0_3e4 lh1_0e4 lh1_1e4 lh1_2e4 → t4c0x1 Q' p0 p1 p2 v3 l2e4 xh0_0e4 xh0_1e4 xh0_2e4 lh0_3e4 lh1_0e4 lh1_1e4 lh1_2e4 :=
  andM (id) (brM (brM (andM (id) (andM (id) (andM (id) (hq _ _)))) (hq _ _)) (hq _ _))
theorem t4c0x1_eq (Q : List V1 → List Ob → Prop) (p0 : K.ty k23) (p1 : K.ty k26) (p2 : K.ty (K.slice (4 : TypeId) K.bool)) (v3 : Int) (l2e4 : List (K.ty K.bool)) (xh0_0e4 : Int) (xh0_1e4 : Int) (xh0_2e4 : Int) (lh0_3e4 : List (K.ty k45)) (lh1_0e4 : List (K.ty K.bool)) (lh1_1e4 : List (K.ty K.bool)) (lh1_2e4 : List (K.ty K.bool)) :
    t4c0x1 Q p0 p1 p2 v3 l2e4 xh0_0e4 xh0_1e4 xh0_2e4 lh0_3e4 lh1_0e4 lh1_1e4 lh1_2e4 = ((blkC (0 : Nat) (seqC (awp tt E4 A4 (Code.b (Code.b (Code.b (Code.b (Code.b (Code.b (Code.b (Func.code Try.f4)))))))) (0 : Nat)) (topC tt Try.f4 0 Q))) (Ex.exit (nat_lit 0)) (X4_0_1 l2e4 xh0_0e4 xh0_1e4 xh0_2e4 lh0_3e4 lh1_0e4 lh1_1e4 lh1_2e4)) := by kernel_rfl
def t4c0x0 (Q : List V1 → List Ob → Prop) (p0 : K.ty k23) (p1 : K.ty k26) (p2 : K.ty (K.slice (4 : TypeId) K.bool)) (v3 : Int) (b6e4 : Bool) : Prop :=
  Q [V1.one (Lf.bool b6e4)] []
theorem t4c0x0_mono {Q : List V1 → List Ob → Prop} {Q' : List V1 → List Ob → Prop} (hq : ∀ r h, Q r h → Q' r h) (p0 : K.ty k23) (p1 : K.ty k26) (p2 : K.ty (K.slice (4 : TypeId) K.bool)) (v3 : Int) (b6e4 : Bool) :
    t4c0x0 Q p0 p1 p2 v3 b6e4 → t4c0x0 Q' p0 p1 p2 v3 b6e4 :=
  hq _ _
theorem t4c0x0_eq (Q : List V1 → List Ob → Prop) (p0 : K.ty k23) (p1 : K.ty k26) (p2 : K.ty (K.slice (4 : TypeId) K.bool)) (v3 : Int) (b6e4 : Bool) :
    t4c0x0 Q p0 p1 p2 v3 b6e4 = ((blkC (0 : Nat) (seqC (awp tt E4 A4 (Code.b (Code.b (Code.b (Code.b (Code.b (Code.b (Code.b (Func.code Try.f4)))))))) (0 : Nat)) (topC tt Try.f4 0 Q))) (Ex.ret) (X4_0_0 b6e4)) := by kernel_rfl
def H4 (Q : List V1 → List Ob → Prop) (p0 : K.ty k23) (p1 : K.ty k26) (p2 : K.ty (K.slice (4 : TypeId) K.bool)) : Prop := t4 Q (fun p0 p1 p2 v3 => ∃ m, G4_0 (fun b6e4 => t4c0x0 Q p0 p1 p2 v3 b6e4) (fun l2e4 xh0_0e4 xh0_1e4 xh0_2e4 lh0_3e4 lh1_0e4 lh1_1e4 lh1_2e4 => t4c0x1 Q p0 p1 p2 v3 l2e4 xh0_0e4 xh0_1e4 xh0_2e4 lh0_3e4 lh1_0e4 lh1_1e4 lh1_2e4) m (p2) ((scanL p0 p2 p1).snd.fst) (false) (p0.snd.snd.snd) ((↑(List.length p0.snd.snd.snd) : Int)) ((0 : Int)) (p0.fst) (p0.snd.fst) (p0.snd.snd.fst) (p0.snd.snd.snd) (p1.fst) (p1.snd.fst) (p1.snd.snd)) (fun p0 p1 p2 v3 => ∃ m, G4_0 (fun b6e4 => t4c1x0 Q p0 p1 p2 v3 b6e4) (fun l2e4 xh0_0e4 xh0_1e4 xh0_2e4 lh0_3e4 lh1_0e4 lh1_1e4 lh1_2e4 => t4c1x1 Q p0 p1 p2 v3 l2e4 xh0_0e4 xh0_1e4 xh0_2e4 lh0_3e4 lh1_0e4 lh1_1e4 lh1_2e4) m (p2) ((scanL p0 p2 p1).snd.fst) (false) (p0.snd.snd.snd) ((↑(List.length p0.snd.snd.snd) : Int)) ((0 : Int)) (p0.fst) (p0.snd.fst) (p0.snd.snd.fst) (p0.snd.snd.snd) (p1.fst) (p1.snd.fst) (p1.snd.snd)) p0 p1 p2
theorem ok4 (Q : List V1 → List Ob → Prop) (p0 : K.ty k23) (p1 : K.ty k26) (p2 : K.ty (K.slice (4 : TypeId) K.bool)) (h : H4 Q p0 p1 p2) : Of (afun tt E4 A4 Try.f4 (I4 p0 p1 p2) [] Q) :=
  kcO (t4_eq Q p0 p1 p2) (t4_mono (fun _ _ h => h) (fun p0 p1 p2 v3 ⟨m, h⟩ => ⟨m, (T4_0 _ (fun b6e4 h => kcO (t4c0x0_eq _ _ _ _ _ _) (t4c0x0_mono (fun _ _ h => h) _ _ _ _ _ h)) (fun l2e4 xh0_0e4 xh0_1e4 xh0_2e4 lh0_3e4 lh1_0e4 lh1_1e4 lh1_2e4 h => kcO (t4c0x1_eq _ _ _ _ _ _ _ _ _ _ _ _ _) (t4c0x1_mono (fun _ _ h => h) _ _ _ _ _ _ _ _ _ _ _ _ h)) m _ _ _ _ _ _ _ _ _ _ _ _ _ h).out⟩) (fun p0 p1 p2 v3 ⟨m, h⟩ => ⟨m, (T4_0 _ (fun b6e4 h => kcO (t4c1x0_eq _ _ _ _ _ _) (t4c1x0_mono (fun _ _ h => h) _ _ _ _ _ h)) (fun l2e4 xh0_0e4 xh0_1e4 xh0_2e4 lh0_3e4 lh1_0e4 lh1_1e4 lh1_2e4 h => kcO (t4c1x1_eq _ _ _ _ _ _ _ _ _ _ _ _ _) (t4c1x1_mono (fun _ _ h => h) _ _ _ _ _ _ _ _ _ _ _ _ h)) m _ _ _ _ _ _ _ _ _ _ _ _ _ h).out⟩) p0 p1 p2 h)
theorem env4 : EnvOk Try.prog E4 := .cons spec8 (by kernel_rfl) <| .cons spec9 (by kernel_rfl) <| .cons spec11 (by kernel_rfl) <| .cons spec13 (by kernel_rfl) <| .nil
theorem loop4 (l : Lad) (inp d s1 s2 s3 : List Bool) (R0 : Bool → Prop) (R1 : List Bool → Int → Int → Int → List Rung → List Bool → List Bool → List Bool → Prop) (hl : d.length = l.rungs.length) (hn : d.length ≤ 64) (h1 : R1 inp l.1 l.2.1 l.2.2.1 l.rungs s1 s2 s3)
    (hj : ∀ j, j + 1 < l.rungs.length → d.getD j false = true → d.getD (j + 1) false = false → Jumped l d j) :
    ∀ n (i : Nat) (al : Bool), d.length - i < n → i ≤ d.length → (i < d.length → d.getD i false = false → al = true) → G4_0 R0 R1 n inp d al l.rungs l.rungs.length i l.1 l.2.1 l.2.2.1 l.rungs s1 s2 s3 := by
  intro n
  induction n with
  | zero => intro i al h; omega
  | succ n ih =>
    intro i al hi hil hinv
    refine brP_intro (fun e => ?_) (fun e => h1)
    have e : (i : Int) < (l.rungs.length : Int) := of_decide_eq_true e
    have hlt : i < d.length := by omega
    have hw : IntKind.wrap IntKind.i64 ((i : Int) + 1) = ((i + 1 : Nat) : Int) := by rw [wrap_in (by omega) (by omega)]; omega
    have hb : bound (i : Int) (List.length d) := ⟨by omega, by omega⟩
    have step : ∀ al', (i + 1 < d.length → d.getD (i + 1) false = false → al' = true) → G4_0 R0 R1 n inp d al' l.rungs l.rungs.length (IntKind.wrap IntKind.i64 ((i : Int) + 1)) l.1 l.2.1 l.2.2.1 l.rungs s1 s2 s3 := fun al' h => by
      rw [hw]; exact ih (i + 1) al' (by omega) (by omega) h
    rw [getE_at]
    refine ⟨⟨by omega, by omega⟩, hb, ?_⟩
    cases hD : d.getD i false with
    | false =>
      have hal := hinv hlt hD
      subst hal
      refine brP_intro (fun _ => brP_intro (fun c => by cases c) (fun _ => ?_)) (fun c => by cases c)
      exact brP_intro (fun _ => ⟨hb, brP_intro (fun c => by cases c) (fun _ => brP_intro (fun _ => step true (fun _ _ => rfl)) (fun c => by cases c))⟩) (fun _ => brP_intro (fun _ => step true (fun _ _ => rfl)) (fun c => by cases c))
    | true =>
      refine brP_intro (fun c => by cases c) (fun _ => ?_)
      have last : (ByteArray.toList (getE k45 l.rungs i).snd.snd.snd != ByteArray.toList (ByteArray.mk #[])) = false → G4_0 R0 R1 n inp d false l.rungs l.rungs.length (IntKind.wrap IntKind.i64 ((i : Int) + 1)) l.1 l.2.1 l.2.2.1 l.rungs s1 s2 s3 := fun c =>
        step false fun h2 h3 => by
          obtain ⟨_, _, _, _, _, m5, _⟩ := hj i (by omega) hD h3
          rw [bne, strEq] at c
          have c6 : (getE k45 l.rungs ↑i).snd.snd.snd = ByteArray.mk #[] := by simpa using c
          exact absurd c6 m5
      exact brP_intro (fun _ => ⟨hb, brP_intro (fun _ => brP_intro (fun _ => ⟨hb, step true (fun _ _ => rfl)⟩) last) (fun c => by cases c)⟩) (fun _ => brP_intro (fun _ => step true (fun _ _ => rfl)) (fun _ => brP_intro (fun _ => ⟨hb, step true (fun _ _ => rfl)⟩) last))
theorem scanGo_bad (l : Lad) (inp : List Bool) : ∀ (k i : Nat) (s : Sta) (did : List Bool), (scanGo l inp k i s did).2.2 ≠ 0 → (scanGo l inp k i s did).2.1 = []
  | 0, i, s, did, h => by simp [scanGo] at h
  | k + 1, i, s, did, h => by
    simp only [scanGo] at h ⊢
    cases h1 : decide (l.rungs.length ≤ i) with
    | true => rw [h1] at h; simp at h
    | false =>
      rw [h1] at h
      simp only [cond_false] at h ⊢
      cases h2 : ((scanR (getE k45 l.rungs i) inp s (getE ki (basesFrom 0 l.rungs) i)).2.2 != 0) with
      | true => rfl
      | false =>
        rw [h2] at h
        exact scanGo_bad l inp k _ _ _ h
theorem scanL_bad {l : Lad} {inp : List Bool} {st : Sta} (h : (scanL l inp st).2.2 ≠ 0) : (scanL l inp st).2.1 = [] := by
  unfold scanL at h ⊢
  cases h1 : ((checkL l).2 != 0) with
  | true => rfl
  | false =>
    rw [h1] at h
    simp only [cond_false] at h ⊢
    cases h2 : (!decide ((inp.length : Int) = l.1) || !fits (sizeE l) st) with
    | true => rfl
    | false =>
      rw [h2] at h
      exact scanGo_bad l inp _ _ _ _ h
/-- A ladder without rungs leaves the state as it was. -/
theorem scanL_none {l : Lad} {inp : List Bool} {st : Sta} (h : (scanL l inp st).2.2 = 0) : scanL (l.1, l.2.1, l.2.2.1, []) inp (st.1, st.2.1, []) = ((st.1, st.2.1, []), [], 0) := by
  obtain ⟨h1, h2, h3, _⟩ := scanL_zero h
  have hs : checkSize (sizesOf l) = 0 := by
    cases hc : (checkSize (sizesOf l) != 0) with
    | false => simpa using hc
    | true => unfold checkL at h1; rw [hc] at h1; simp at h1
  have hs : checkSize (l.1, l.2.1, l.2.2.1, 0) = 0 := hs
  have hc : checkL (l.1, l.2.1, l.2.2.1, []) = (0, 0) := by
    unfold checkL
    have : checkSize (sizesOf (l.1, l.2.1, l.2.2.1, [])) = 0 := hs
    rw [this]; rfl
  unfold fits at h3
  simp only [Bool.and_eq_true] at h3
  have hf : fits (sizeE (l.1, l.2.1, l.2.2.1, [])) (st.1, st.2.1, []) = true := by
    unfold fits
    simp only [Bool.and_eq_true]
    refine ⟨h3.1, h3.2.1, ?_, ?_⟩
    · rfl
    · show (checkSize (l.1, l.2.1, l.2.2.1, 0) == 0) = true
      rw [hs]; rfl
  unfold scanL
  rw [hc, hf]
  have e : decide ((inp.length : Int) = (l.1, l.2.1, l.2.2.1, ([] : List Rung)).1) = true := decide_eq_true h2
  rw [e]
  rfl
def F4 (l : Lad) (st : Sta) (inp : List Bool) (Q : QT) : Prop := wideL l ∧ Q [.one (.bool true)] []
def sp4 : PT := S3 k23 k26 kbs F4
theorem spec4 : SpecOk Try.prog 4 sp4 := S3.ok tt_ok mixed env4 Try.func4 fun (l : Lad) (st : Sta) (inp : List Bool) Q h => ok4 Q l st inp <| by
  obtain ⟨h1, hq⟩ := h
  refine ⟨⟨h1, by simp⟩, fun v hv hok => brP_intro (fun c => hq) (fun c => ?_)⟩
  have c : ¬ v > 0 := of_decide_eq_false c
  have v0 : v = 0 := by rcases hv with h | h <;> omega
  obtain ⟨o1, o2, o3, o4⟩ := hok v0
  have hsm := small_of_big o2
  refine ⟨hsm, brP_intro (fun e => ?_) (fun e => ?_)⟩
  · rw [scanL_bad (by simpa using e)]; exact hq
  · have e : (scanL l inp st).2.2 = 0 := by simpa using e
    obtain ⟨d1, d2, d3, d4⟩ := scanL_did e
    have hfin : small (st.1, st.2.1, []) ∧ brP ((scanL (l.1, l.2.1, l.2.2.1, []) inp (st.1, st.2.1, [])).snd.snd == (0 : Int)) (brP ((↑(List.length (scanL (l.1, l.2.1, l.2.2.1, []) inp (st.1, st.2.1, [])).snd.fst) : Int) == (0 : Int)) (List.length (scanL (l.1, l.2.1, l.2.2.1, []) inp (st.1, st.2.1, [])).fst.fst ≤ (4611686018427387904 : Nat) ∧ List.length (scanL (l.1, l.2.1, l.2.2.1, []) inp (st.1, st.2.1, [])).fst.snd.fst ≤ (4611686018427387904 : Nat) ∧ List.length (scanL (l.1, l.2.1, l.2.2.1, []) inp (st.1, st.2.1, [])).fst.snd.snd ≤ (4611686018427387904 : Nat) ∧ Q [V1.one (Lf.bool (decide ((scanL (l.1, l.2.1, l.2.2.1, []) inp (st.1, st.2.1, [])).fst = (st.1, st.2.1, []))))] []) (Q [V1.one (Lf.bool false)] [])) (Q [V1.one (Lf.bool false)] []) := by
      rw [scanL_none e]
      obtain ⟨a1, a2, a3⟩ := hsm
      refine ⟨⟨a1, a2, by simp⟩, brP_intro (fun _ => brP_intro (fun _ => ⟨by show st.1.length ≤ _; omega, by show st.2.1.length ≤ _; omega, by simp, ?_⟩) (fun c => by cases c)) (fun c => by cases c)⟩
      have : decide ((((st.1, st.2.1, []), [], 0) : Sta × List Bool × Int).fst = (st.1, st.2.1, [])) = true := decide_eq_true rfl
      rw [this]; exact hq
    refine brP_intro (fun e2 => ?_) (fun e2 => brP_intro (fun e3 => ⟨⟨by omega, by have := of_decide_eq_true e3; omega⟩, brP_intro (fun e4 => ?_) (fun e4 => ?_)⟩) (fun e3 => ?_))
    · have e2 : ¬ (((scanL l inp st).2.1.length : Nat) : Int) = ((l.rungs.length : Nat) : Int) := by simpa using e2
      omega
    · have e3 := of_decide_eq_true e3
      have h0 := d3 (by omega)
      have e5 : getE K.bool (scanL l inp st).2.1 (0 : Int) = (scanL l inp st).2.1.getD 0 false := getE_at _ 0
      rw [e5, h0] at e4
      cases e4
    · exact ⟨(scanL l inp st).2.1.length + 1, loop4 l inp _ st.1 st.2.1 st.2.2 _ _ d1 (by omega) hfin d4 _ 0 false (by omega) (by omega) (fun hp hf => by rw [d3 (by omega)] at hf; cases hf)⟩
    · exact ⟨(scanL l inp st).2.1.length + 1, loop4 l inp _ st.1 st.2.1 st.2.2 _ _ d1 (by omega) hfin d4 _ 0 false (by omega) (by omega) (fun hp hf => by rw [d3 (by omega)] at hf; cases hf)⟩
end Go.AM
