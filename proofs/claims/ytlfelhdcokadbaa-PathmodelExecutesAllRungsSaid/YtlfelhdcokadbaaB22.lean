/- Functions of the program. Conditions: none. -/
import Derived.Test.YtlfelhdcokadbaaD2
import Derived.Test.YtlfelhdcokadbaaC5
import Derived.Test.YtlfelhdcokadbaaB19
import Derived.Test.YtlfelhdcokadbaaB21
set_option linter.all false
namespace Go.AM
open Go.Proofs
-- f5 "busbar/busbarlaw20.PathmodelSkipsToLabel" ['24', '27', '25'] -> ['4']
def A5 : Ann := [(0, [3, 8, 10], [], [6]), (2, [3, 8, 10, 11], [3, 8, 10, 11], [6])]
def E5 : Env := [(8, sp8), (9, sp9), (11, sp11)]
def I5 (p0 : (k23 : K).ty) (p1 : (k26 : K).ty) (p2 : ((.slice 4 .bool) : K).ty) : List V1 := [nfK k23 p0, nfK k26 p1, nfK (.slice 4 .bool) p2]
noncomputable def L5_0 : Code := Code.a (Code.a (Code.b (Code.a (Code.b (Code.b (Code.b (Code.b (Func.code Try.f5))))))))
def S5_0 (l8 : List (K.ty K.bool)) (x10 : Int) (xh0_0 : Int) (xh0_1 : Int) (xh0_2 : Int) (lh0_3 : List (K.ty k45)) : St := sp (111 : Nat) [((3 : Nat), V.v (V1.one (Lf.ptr (nat_lit 0) (nat_lit 0)))), ((8 : Nat), V.v (V1.one (Lf.sl (4 : TypeId) K.bool l8))), ((10 : Nat), V.v (V1.one (Lf.int IntKind.i64 x10)))] [Ob.box (24 : Nat) [Lf.int IntKind.i64 xh0_0, Lf.int IntKind.i64 xh0_1, Lf.int IntKind.i64 xh0_2, Lf.sl (46 : TypeId) k45 lh0_3]]
def X5_0_0 (b6 : Bool) : St := sp (111 : Nat) [((6 : Nat), V.v (V1.one (Lf.bool b6)))] []
def X5_0_1 : St := sp (111 : Nat) [] []
noncomputable def L5_2 : Code := Code.a (Code.a (Code.a (Code.b (Code.b (Code.a (Code.a (Code.b (Code.a (Code.a (Code.b (Code.a (Code.b (Code.b (Code.b (Code.b (Func.code Try.f5))))))))))))))))
def S5_2 (l8 : List (K.ty K.bool)) (x10 : Int) (x11 : Int) (xh0_0 : Int) (xh0_1 : Int) (xh0_2 : Int) (lh0_3 : List (K.ty k45)) : St := sp (111 : Nat) [((3 : Nat), V.v (V1.one (Lf.ptr (nat_lit 0) (nat_lit 0)))), ((8 : Nat), V.v (V1.one (Lf.sl (4 : TypeId) K.bool l8))), ((10 : Nat), V.v (V1.one (Lf.int IntKind.i64 x10))), ((11 : Nat), V.v (V1.one (Lf.int IntKind.i64 x11)))] [Ob.box (24 : Nat) [Lf.int IntKind.i64 xh0_0, Lf.int IntKind.i64 xh0_1, Lf.int IntKind.i64 xh0_2, Lf.sl (46 : TypeId) k45 lh0_3]]
def X5_2_0 (l8 : List (K.ty K.bool)) (x10 : Int) (x11 : Int) (xh0_0 : Int) (xh0_1 : Int) (xh0_2 : Int) (lh0_3 : List (K.ty k45)) : St := sp (111 : Nat) [((3 : Nat), V.v (V1.one (Lf.ptr (nat_lit 0) (nat_lit 0)))), ((8 : Nat), V.v (V1.one (Lf.sl (4 : TypeId) K.bool l8))), ((10 : Nat), V.v (V1.one (Lf.int IntKind.i64 x10))), ((11 : Nat), V.v (V1.one (Lf.int IntKind.i64 x11)))] [Ob.box (24 : Nat) [Lf.int IntKind.i64 xh0_0, Lf.int IntKind.i64 xh0_1, Lf.int IntKind.i64 xh0_2, Lf.sl (46 : TypeId) k45 lh0_3]]
def t5_2 (again : List (K.ty K.bool) → Int → Int → Int → Int → Int → List (K.ty k45) → Prop) (R0 : List (K.ty K.bool) → Int → Int → Int → Int → Int → List (K.ty k45) → Prop) (l8 : List (K.ty K.bool)) (x10 : Int) (x11 : Int) (xh0_0 : Int) (xh0_1 : Int) (xh0_2 : Int) (lh0_3 : List (K.ty k45)) : Prop :=
  brP (decide (x11 < (↑(List.length l8) : Int))) (bound x11 (List.length l8) ∧ brP (!getE K.bool l8 x11) (again l8 x10 (IntKind.wrap IntKind.i64 (x11 + (1 : Int))) xh0_0 xh0_1 xh0_2 lh0_3) (R0 l8 x10 x11 xh0_0 xh0_1 xh0_2 lh0_3)) (R0 l8 x10 x11 xh0_0 xh0_1 xh0_2 lh0_3)
theorem t5_2_mono {again : List (K.ty K.bool) → Int → Int → Int → Int → Int → List (K.ty k45) → Prop} {R0 : List (K.ty K.bool) → Int → Int → Int → Int → Int → List (K.ty k45) → Prop} {again' : List (K.ty K.bool) → Int → Int → Int → Int → Int → List (K.ty k45) → Prop} {R0' : List (K.ty K.bool) → Int → Int → Int → Int → Int → List (K.ty k45) → Prop} (ha : ∀ l8 x10 x11 xh0_0 xh0_1 xh0_2 lh0_3, again l8 x10 x11 xh0_0 xh0_1 xh0_2 lh0_3 → again' l8 x10 x11 xh0_0 xh0_1 xh0_2 lh0_3) (hr0 : ∀ l8 x10 x11 xh0_0 xh0_1 xh0_2 lh0_3, R0 l8 x10 x11 xh0_0 xh0_1 xh0_2 lh0_3 → R0' l8 x10 x11 xh0_0 xh0_1 xh0_2 lh0_3) (l8 : List (K.ty K.bool)) (x10 : Int) (x11 : Int) (xh0_0 : Int) (xh0_1 : Int) (xh0_2 : Int) (lh0_3 : List (K.ty k45)) :
    t5_2 again R0 l8 x10 x11 xh0_0 xh0_1 xh0_2 lh0_3 → t5_2 again' R0' l8 x10 x11 xh0_0 xh0_1 xh0_2 lh0_3 :=
  brM (andM (id) (brM (ha _ _ _ _ _ _ _) (hr0 _ _ _ _ _ _ _))) (hr0 _ _ _ _ _ _ _)
theorem t5_2_eq (n : Nat) (Q : Ex → St → Prop) (l8 : List (K.ty K.bool)) (x10 : Int) (x11 : Int) (xh0_0 : Int) (xh0_1 : Int) (xh0_2 : Int) (lh0_3 : List (K.ty k45)) :
    t5_2 (fun l8 x10 x11 xh0_0 xh0_1 xh0_2 lh0_3 => loopP (awp tt E5 A5 L5_2 2) ([(3 : Nat), (8 : Nat), (10 : Nat), (11 : Nat)], [(3 : Nat), (8 : Nat), (10 : Nat), (11 : Nat)], [(6 : Nat)]) n (S5_2 l8 x10 x11 xh0_0 xh0_1 xh0_2 lh0_3) Q) (fun l8 x10 x11 xh0_0 xh0_1 xh0_2 lh0_3 => Q (Ex.exit (nat_lit 2)) (X5_2_0 l8 x10 x11 xh0_0 xh0_1 xh0_2 lh0_3)) l8 x10 x11 xh0_0 xh0_1 xh0_2 lh0_3 = (loopP (awp tt E5 A5 L5_2 2) ([(3 : Nat), (8 : Nat), (10 : Nat), (11 : Nat)], [(3 : Nat), (8 : Nat), (10 : Nat), (11 : Nat)], [(6 : Nat)]) (n + 1) (S5_2 l8 x10 x11 xh0_0 xh0_1 xh0_2 lh0_3) Q) := by kernel_rfl
def G5_2 (R0 : List (K.ty K.bool) → Int → Int → Int → Int → Int → List (K.ty k45) → Prop) : Nat → List (K.ty K.bool) → Int → Int → Int → Int → Int → List (K.ty k45) → Prop
  | 0, _, _, _, _, _, _, _ => False
  | n + 1, l8, x10, x11, xh0_0, xh0_1, xh0_2, lh0_3 => t5_2 (G5_2 R0 n) R0 l8 x10 x11 xh0_0 xh0_1 xh0_2 lh0_3
theorem T5_2 {R0 : List (K.ty K.bool) → Int → Int → Int → Int → Int → List (K.ty k45) → Prop} (Q : Ex → St → Prop) (hr0 : ∀ l8 x10 x11 xh0_0 xh0_1 xh0_2 lh0_3, R0 l8 x10 x11 xh0_0 xh0_1 xh0_2 lh0_3 → Of (Q (Ex.exit (nat_lit 2)) (X5_2_0 l8 x10 x11 xh0_0 xh0_1 xh0_2 lh0_3))) : ∀ (n : Nat) (l8 : List (K.ty K.bool)) (x10 : Int) (x11 : Int) (xh0_0 : Int) (xh0_1 : Int) (xh0_2 : Int) (lh0_3 : List (K.ty k45)), G5_2 R0 n l8 x10 x11 xh0_0 xh0_1 xh0_2 lh0_3 → Of (loopP (awp tt E5 A5 L5_2 2) ([(3 : Nat), (8 : Nat), (10 : Nat), (11 : Nat)], [(3 : Nat), (8 : Nat), (10 : Nat), (11 : Nat)], [(6 : Nat)]) n (S5_2 l8 x10 x11 xh0_0 xh0_1 xh0_2 lh0_3) Q) := by
  intro n
  induction n with
  | zero => intro l8 x10 x11 xh0_0 xh0_1 xh0_2 lh0_3 h; exact h.elim
  | succ n ih =>
    intro l8 x10 x11 xh0_0 xh0_1 xh0_2 lh0_3 h
    exact kcO (t5_2_eq n Q l8 x10 x11 xh0_0 xh0_1 xh0_2 lh0_3) (t5_2_mono (fun _ _ _ _ _ _ _ h => (ih _ _ _ _ _ _ _ h).out) (fun _ _ _ _ _ _ _ h => (hr0 _ _ _ _ _ _ _ h).out) l8 x10 x11 xh0_0 xh0_1 xh0_2 lh0_3 h)
def t5_0 (again : List (K.ty K.bool) → Int → Int → Int → Int → List (K.ty k45) → Prop) (R0 : Bool → Prop) (R1 : Prop) (lp0 : List (K.ty K.bool) → Int → Int → Int → Int → List (K.ty k45) → Prop) (l8 : List (K.ty K.bool)) (x10 : Int) (xh0_0 : Int) (xh0_1 : Int) (xh0_2 : Int) (lh0_3 : List (K.ty k45)) : Prop :=
  brP (decide (x10 < (↑(List.length l8) : Int))) (bound x10 (List.length l8) ∧ brP (!getE K.bool l8 x10) (again l8 (IntKind.wrap IntKind.i64 (x10 + (1 : Int))) xh0_0 xh0_1 xh0_2 lh0_3) (brP (decide (IntKind.wrap IntKind.i64 (x10 + (1 : Int)) ≥ (↑(List.length l8) : Int))) (again l8 (IntKind.wrap IntKind.i64 (x10 + (1 : Int))) xh0_0 xh0_1 xh0_2 lh0_3) (bound (IntKind.wrap IntKind.i64 (x10 + (1 : Int))) (List.length l8) ∧ brP (getE K.bool l8 (IntKind.wrap IntKind.i64 (x10 + (1 : Int)))) (again l8 (IntKind.wrap IntKind.i64 (x10 + (1 : Int))) xh0_0 xh0_1 xh0_2 lh0_3) (lp0 l8 x10 xh0_0 xh0_1 xh0_2 lh0_3)))) R1
theorem t5_0_mono {again : List (K.ty K.bool) → Int → Int → Int → Int → List (K.ty k45) → Prop} {R0 : Bool → Prop} {R1 : Prop} {again' : List (K.ty K.bool) → Int → Int → Int → Int → List (K.ty k45) → Prop} {R0' : Bool → Prop} {R1' : Prop} {lp0 : List (K.ty K.bool) → Int → Int → Int → Int → List (K.ty k45) → Prop} {lp0' : List (K.ty K.bool) → Int → Int → Int → Int → List (K.ty k45) → Prop} (ha : ∀ l8 x10 xh0_0 xh0_1 xh0_2 lh0_3, again l8 x10 xh0_0 xh0_1 xh0_2 lh0_3 → again' l8 x10 xh0_0 xh0_1 xh0_2 lh0_3) (hr0 : ∀ b6, R0 b6 → R0' b6) (hr1 :  R1 → R1') (hlp0 : ∀ l8 x10 xh0_0 xh0_1 xh0_2 lh0_3, lp0 l8 x10 xh0_0 xh0_1 xh0_2 lh0_3 → lp0' l8 x10 xh0_0 xh0_1 xh0_2 lh0_3) (l8 : List (K.ty K.bool)) (x10 : Int) (xh0_0 : Int) (xh0_1 : Int) (xh0_2 : Int) (lh0_3 : List (K.ty k45)) :
    t5_0 again R0 R1 lp0 l8 x10 xh0_0 xh0_1 xh0_2 lh0_3 → t5_0 again' R0' R1' lp0' l8 x10 xh0_0 xh0_1 xh0_2 lh0_3 :=
  brM (andM (id) (brM (ha _ _ _ _ _ _) (brM (ha _ _ _ _ _ _) (andM (id) (brM (ha _ _ _ _ _ _) (hlp0 _ _ _ _ _ _)))))) (hr1)
theorem t5_0_eq (n : Nat) (Q : Ex → St → Prop) (l8 : List (K.ty K.bool)) (x10 : Int) (xh0_0 : Int) (xh0_1 : Int) (xh0_2 : Int) (lh0_3 : List (K.ty k45)) :
    t5_0 (fun l8 x10 xh0_0 xh0_1 xh0_2 lh0_3 => loopP (awp tt E5 A5 L5_0 0) ([(3 : Nat), (8 : Nat), (10 : Nat)], [], [(6 : Nat)]) n (S5_0 l8 x10 xh0_0 xh0_1 xh0_2 lh0_3) Q) (fun b6 => Q (Ex.ret) (X5_0_0 b6)) ( Q (Ex.exit (nat_lit 0)) (X5_0_1)) (fun l8 x10 xh0_0 xh0_1 xh0_2 lh0_3 => ∃ m, loopP (awp tt E5 A5 L5_2 2) ([(3 : Nat), (8 : Nat), (10 : Nat), (11 : Nat)], [(3 : Nat), (8 : Nat), (10 : Nat), (11 : Nat)], [(6 : Nat)]) m (S5_2 (l8) (x10) (IntKind.wrap IntKind.i64 (x10 + (1 : Int))) (xh0_0) (xh0_1) (xh0_2) (lh0_3)) (blkC (2 : Nat) (seqC (awp tt E5 A5 (Code.b (Code.b (Code.b (Code.a (Code.a (Code.b (Code.a (Code.a (Code.b (Code.a (Code.b (Code.b (Code.b (Code.b (Func.code Try.f5))))))))))))))) (1 : Nat)) (blkC (1 : Nat) (seqC (awp tt E5 A5 (Code.b (Code.b (Code.a (Code.a (Code.b (Code.a (Code.b (Code.b (Code.b (Code.b (Func.code Try.f5))))))))))) (0 : Nat)) (loopC (awp tt E5 A5 (Code.a (Code.a (Code.b (Code.a (Code.b (Code.b (Code.b (Code.b (Func.code Try.f5))))))))) (0 : Nat)) ([(3 : Nat), (8 : Nat), (10 : Nat)], [], [(6 : Nat)]) n Q)))))) l8 x10 xh0_0 xh0_1 xh0_2 lh0_3 = (loopP (awp tt E5 A5 L5_0 0) ([(3 : Nat), (8 : Nat), (10 : Nat)], [], [(6 : Nat)]) (n + 1) (S5_0 l8 x10 xh0_0 xh0_1 xh0_2 lh0_3) Q) := by kernel_rfl
def t5_0c0x0 (again : List (K.ty K.bool) → Int → Int → Int → Int → List (K.ty k45) → Prop) (R0 : Bool → Prop) (R1 : Prop) (l8 : List (K.ty K.bool)) (x10 : Int) (xh0_0 : Int) (xh0_1 : Int) (xh0_2 : Int) (lh0_3 : List (K.ty k45)) (l8e6 : List (K.ty K.bool)) (x10e6 : Int) (x11e6 : Int) (xh0_0e6 : Int) (xh0_1e6 : Int) (xh0_2e6 : Int) (lh0_3e6 : List (K.ty k45)) : Prop :=
  brP (x11e6 == (↑(List.length l8e6) : Int)) (R0 false) (bound x10e6 (List.length lh0_3e6) ∧ brP (ByteArray.toList (getE k45 lh0_3e6 x10e6).snd.snd.snd == ByteArray.toList (ByteArray.mk #[])) (R0 false) (bound x11e6 (List.length lh0_3e6) ∧ bound x10e6 (List.length lh0_3e6) ∧ brP (ByteArray.toList (getE k45 lh0_3e6 x11e6).fst != ByteArray.toList (getE k45 lh0_3e6 x10e6).snd.snd.snd) (R0 false) (again l8e6 (IntKind.wrap IntKind.i64 (x10e6 + (1 : Int))) xh0_0e6 xh0_1e6 xh0_2e6 lh0_3e6)))
theorem t5_0c0x0_mono {again : List (K.ty K.bool) → Int → Int → Int → Int → List (K.ty k45) → Prop} {R0 : Bool → Prop} {R1 : Prop} {again' : List (K.ty K.bool) → Int → Int → Int → Int → List (K.ty k45) → Prop} {R0' : Bool → Prop} {R1' : Prop} (ha : ∀ l8 x10 xh0_0 xh0_1 xh0_2 lh0_3, again l8 x10 xh0_0 xh0_1 xh0_2 lh0_3 → again' l8 x10 xh0_0 xh0_1 xh0_2 lh0_3) (hr0 : ∀ b6, R0 b6 → R0' b6) (hr1 :  R1 → R1') (l8 : List (K.ty K.bool)) (x10 : Int) (xh0_0 : Int) (xh0_1 : Int) (xh0_2 : Int) (lh0_3 : List (K.ty k45)) (l8e6 : List (K.ty K.bool)) (x10e6 : Int) (x11e6 : Int) (xh0_0e6 : Int) (xh0_1e6 : Int) (xh0_2e6 : Int) (lh0_3e6 : List (K.ty k45)) :
    t5_0c0x0 again R0 R1 l8 x10 xh0_0 xh0_1 xh0_2 lh0_3 l8e6 x10e6 x11e6 xh0_0e6 xh0_1e6 xh0_2e6 lh0_3e6 → t5_0c0x0 again' R0' R1' l8 x10 xh0_0 xh0_1 xh0_2 lh0_3 l8e6 x10e6 x11e6 xh0_0e6 xh0_1e6 xh0_2e6 lh0_3e6 :=
  brM (hr0 _) (andM (id) (brM (hr0 _) (andM (id) (andM (id) (brM (hr0 _) (ha _ _ _ _ _ _))))))
theorem t5_0c0x0_eq (n : Nat) (Q : Ex → St → Prop) (l8 : List (K.ty K.bool)) (x10 : Int) (xh0_0 : Int) (xh0_1 : Int) (xh0_2 : Int) (lh0_3 : List (K.ty k45)) (l8e6 : List (K.ty K.bool)) (x10e6 : Int) (x11e6 : Int) (xh0_0e6 : Int) (xh0_1e6 : Int) (xh0_2e6 : Int) (lh0_3e6 : List (K.ty k45)) :
    t5_0c0x0 (fun l8 x10 xh0_0 xh0_1 xh0_2 lh0_3 => loopP (awp tt E5 A5 L5_0 0) ([(3 : Nat), (8 : Nat), (10 : Nat)], [], [(6 : Nat)]) n (S5_0 l8 x10 xh0_0 xh0_1 xh0_2 lh0_3) Q) (fun b6 => Q (Ex.ret) (X5_0_0 b6)) ( Q (Ex.exit (nat_lit 0)) (X5_0_1)) l8 x10 xh0_0 xh0_1 xh0_2 lh0_3 l8e6 x10e6 x11e6 xh0_0e6 xh0_1e6 xh0_2e6 lh0_3e6 = ((blkC (2 : Nat) (seqC (awp tt E5 A5 (Code.b (Code.b (Code.b (Code.a (Code.a (Code.b (Code.a (Code.a (Code.b (Code.a (Code.b (Code.b (Code.b (Code.b (Func.code Try.f5))))))))))))))) (1 : Nat)) (blkC (1 : Nat) (seqC (awp tt E5 A5 (Code.b (Code.b (Code.a (Code.a (Code.b (Code.a (Code.b (Code.b (Code.b (Code.b (Func.code Try.f5))))))))))) (0 : Nat)) (loopC (awp tt E5 A5 (Code.a (Code.a (Code.b (Code.a (Code.b (Code.b (Code.b (Code.b (Func.code Try.f5))))))))) (0 : Nat)) ([(3 : Nat), (8 : Nat), (10 : Nat)], [], [(6 : Nat)]) n Q))))) (Ex.exit (nat_lit 2)) (X5_2_0 l8e6 x10e6 x11e6 xh0_0e6 xh0_1e6 xh0_2e6 lh0_3e6)) := by kernel_rfl
def G5_0 (R0 : Bool → Prop) (R1 : Prop) : Nat → List (K.ty K.bool) → Int → Int → Int → Int → List (K.ty k45) → Prop
  | 0, _, _, _, _, _, _ => False
  | n + 1, l8, x10, xh0_0, xh0_1, xh0_2, lh0_3 => t5_0 (G5_0 R0 R1 n) R0 R1 (fun l8 x10 xh0_0 xh0_1 xh0_2 lh0_3 => ∃ m, G5_2 (fun l8e6 x10e6 x11e6 xh0_0e6 xh0_1e6 xh0_2e6 lh0_3e6 => t5_0c0x0 (G5_0 R0 R1 n) R0 R1 l8 x10 xh0_0 xh0_1 xh0_2 lh0_3 l8e6 x10e6 x11e6 xh0_0e6 xh0_1e6 xh0_2e6 lh0_3e6) m (l8) (x10) (IntKind.wrap IntKind.i64 (x10 + (1 : Int))) (xh0_0) (xh0_1) (xh0_2) (lh0_3)) l8 x10 xh0_0 xh0_1 xh0_2 lh0_3
theorem T5_0 {R0 : Bool → Prop} {R1 : Prop} (Q : Ex → St → Prop) (hr0 : ∀ b6, R0 b6 → Of (Q (Ex.ret) (X5_0_0 b6))) (hr1 :  R1 → Of (Q (Ex.exit (nat_lit 0)) (X5_0_1))) : ∀ (n : Nat) (l8 : List (K.ty K.bool)) (x10 : Int) (xh0_0 : Int) (xh0_1 : Int) (xh0_2 : Int) (lh0_3 : List (K.ty k45)), G5_0 R0 R1 n l8 x10 xh0_0 xh0_1 xh0_2 lh0_3 → Of (loopP (awp tt E5 A5 L5_0 0) ([(3 : Nat), (8 : Nat), (10 : Nat)], [], [(6 : Nat)]) n (S5_0 l8 x10 xh0_0 xh0_1 xh0_2 lh0_3) Q) := by
  intro n
  induction n with
  | zero => intro l8 x10 xh0_0 xh0_1 xh0_2 lh0_3 h; exact h.elim
  | succ n ih =>
    intro l8 x10 xh0_0 xh0_1 xh0_2 lh0_3 h
    exact kcO (t5_0_eq n Q l8 x10 xh0_0 xh0_1 xh0_2 lh0_3) (t5_0_mono (fun _ _ _ _ _ _ h => (ih _ _ _ _ _ _ h).out) (fun _ h => (hr0 _ h).out) (fun h => (hr1 h).out) (fun l8 x10 xh0_0 xh0_1 xh0_2 lh0_3 ⟨m, h⟩ => ⟨m, (T5_2 _ (fun l8e6 x10e6 x11e6 xh0_0e6 xh0_1e6 xh0_2e6 lh0_3e6 h => kcO (t5_0c0x0_eq _ _ _ _ _ _ _ _ _ _ _ _ _ _ _) (t5_0c0x0_mono (fun _ _ _ _ _ _ h => (ih _ _ _ _ _ _ h).out) (fun _ h => (hr0 _ h).out) (fun h => (hr1 h).out) _ _ _ _ _ _ _ _ _ _ _ _ _ h)) m _ _ _ _ _ _ _ h).out⟩) l8 x10 xh0_0 xh0_1 xh0_2 lh0_3 h)
def t5 (Q : List V1 → List Ob → Prop) (lp0 : K.ty k23 → K.ty k26 → K.ty (K.slice (4 : TypeId) K.bool) → Int → Prop) (p0 : K.ty k23) (p1 : K.ty k26) (p2 : K.ty (K.slice (4 : TypeId) K.bool)) : Prop :=
  (wideL p0 ∧ List.length (List.set (List.replicate (1 : Nat) (K.dflt (K.slice (4 : TypeId) K.bool))) (0 : Nat) p2) ≤ (4611686018427387904 : Nat)) ∧ ∀ (v3 : Int), isBit v3 → (v3 = (0 : Int) → okIn p0 p1 (List.set (List.replicate (1 : Nat) (K.dflt (K.slice (4 : TypeId) K.bool))) (0 : Nat) p2)) → brP (decide (v3 > (0 : Int))) (Q [V1.one (Lf.bool true)] []) (small p1 ∧ brP ((scanL p0 p2 p1).snd.snd != (0 : Int)) (Q [V1.one (Lf.bool ((scanL p0 p2 p1).snd.snd != (0 : Int)))] []) (brP ((↑(List.length (scanL p0 p2 p1).snd.fst) : Int) != (↑(List.length p0.snd.snd.snd) : Int)) (Q [V1.one (Lf.bool ((scanL p0 p2 p1).snd.snd != (0 : Int)))] []) (lp0 p0 p1 p2 v3)))
theorem t5_mono {Q : List V1 → List Ob → Prop} {Q' : List V1 → List Ob → Prop} {lp0 : K.ty k23 → K.ty k26 → K.ty (K.slice (4 : TypeId) K.bool) → Int → Prop} {lp0' : K.ty k23 → K.ty k26 → K.ty (K.slice (4 : TypeId) K.bool) → Int → Prop} (hq : ∀ r h, Q r h → Q' r h) (hlp0 : ∀ p0 p1 p2 v3, lp0 p0 p1 p2 v3 → lp0' p0 p1 p2 v3) (p0 : K.ty k23) (p1 : K.ty k26) (p2 : K.ty (K.slice (4 : TypeId) K.bool)) :
    t5 Q lp0 p0 p1 p2 → t5 Q' lp0' p0 p1 p2 :=
  andM (andM (id) (id)) (fun hh x => ap (hh x) (fun hh x => ap (hh x) (fun hh x => ap (hh x) (brM (hq _ _) (andM (id) (brM (hq _ _) (brM (hq _ _) (hlp0 _ _ _ _))))))))
theorem t5_eq (Q : List V1 → List Ob → Prop) (p0 : K.ty k23) (p1 : K.ty k26) (p2 : K.ty (K.slice (4 : TypeId) K.bool)) :
    t5 Q (fun p0 p1 p2 v3 => ∃ m, loopP (awp tt E5 A5 L5_0 0) ([(3 : Nat), (8 : Nat), (10 : Nat)], [], [(6 : Nat)]) m (S5_0 ((scanL p0 p2 p1).snd.fst) ((0 : Int)) (p0.fst) (p0.snd.fst) (p0.snd.snd.fst) (p0.snd.snd.snd)) (blkC (0 : Nat) (seqC (awp tt E5 A5 (Code.b (Code.b (Code.b (Code.b (Code.b (Func.code Try.f5)))))) (0 : Nat)) (topC tt Try.f5 0 Q)))) p0 p1 p2 = (afun tt E5 A5 Try.f5 (I5 p0 p1 p2) [] Q) := by kernel_rfl
def t5c0x1 (Q : List V1 → List Ob → Prop) (p0 : K.ty k23) (p1 : K.ty k26) (p2 : K.ty (K.slice (4 : TypeId) K.bool)) (v3 : Int) : Prop :=
  Q [V1.one (Lf.bool true)] []
theorem t5c0x1_mono {Q : List V1 → List Ob → Prop} {Q' : List V1 → List Ob → Prop} (hq : ∀ r h, Q r h → Q' r h) (p0 : K.ty k23) (p1 : K.ty k26) (p2 : K.ty (K.slice (4 : TypeId) K.bool)) (v3 : Int) :
    t5c0x1 Q p0 p1 p2 v3 → t5c0x1 Q' p0 p1 p2 v3 :=
  hq _ _
theorem t5c0x1_eq (Q : List V1 → List Ob → Prop) (p0 : K.ty k23) (p1 : K.ty k26) (p2 : K.ty (K.slice (4 : TypeId) K.bool)) (v3 : Int) :
    t5c0x1 Q p0 p1 p2 v3 = ((blkC (0 : Nat) (seqC (awp tt E5 A5 (Code.b (Code.b (Code.b (Code.b (Code.b (Func.code Try.f5)))))) (0 : Nat)) (topC tt Try.f5 0 Q))) (Ex.exit (nat_lit 0)) (X5_0_1)) := by kernel_rfl
def t5c0x0 (Q : List V1 → List Ob → Prop) (p0 : K.ty k23) (p1 : K.ty k26) (p2 : K.ty (K.slice (4 : TypeId) K.bool)) (v3 : Int) (b6e4 : Bool) : Prop :=
  Q [V1.one (Lf.bool b6e4)] []
theorem t5c0x0_mono {Q : List V1 → List Ob → Prop} {Q' : List V1 → List Ob → Prop} (hq : ∀ r h, Q r h → Q' r h) (p0 : K.ty k23) (p1 : K.ty k26) (p2 : K.ty (K.slice (4 : TypeId) K.bool)) (v3 : Int) (b6e4 : Bool) :
    t5c0x0 Q p0 p1 p2 v3 b6e4 → t5c0x0 Q' p0 p1 p2 v3 b6e4 :=
  hq _ _
theorem t5c0x0_eq (Q : List V1 → List Ob → Prop) (p0 : K.ty k23) (p1 : K.ty k26) (p2 : K.ty (K.slice (4 : TypeId) K.bool)) (v3 : Int) (b6e4 : Bool) :
    t5c0x0 Q p0 p1 p2 v3 b6e4 = ((blkC (0 : Nat) (seqC (awp tt E5 A5 (Code.b (Code.b (Code.b (Code.b (Code.b (Func.code Try.f5)))))) (0 : Nat)) (topC tt Try.f5 0 Q))) (Ex.ret) (X5_0_0 b6e4)) := by kernel_rfl
def H5 (Q : List V1 → List Ob → Prop) (p0 : K.ty k23) (p1 : K.ty k26) (p2 : K.ty (K.slice (4 : TypeId) K.bool)) : Prop := t5 Q (fun p0 p1 p2 v3 => ∃ m, G5_0 (fun b6e4 => t5c0x0 Q p0 p1 p2 v3 b6e4) ( t5c0x1 Q p0 p1 p2 v3) m ((scanL p0 p2 p1).snd.fst) ((0 : Int)) (p0.fst) (p0.snd.fst) (p0.snd.snd.fst) (p0.snd.snd.snd)) p0 p1 p2
theorem ok5 (Q : List V1 → List Ob → Prop) (p0 : K.ty k23) (p1 : K.ty k26) (p2 : K.ty (K.slice (4 : TypeId) K.bool)) (h : H5 Q p0 p1 p2) : Of (afun tt E5 A5 Try.f5 (I5 p0 p1 p2) [] Q) :=
  kcO (t5_eq Q p0 p1 p2) (t5_mono (fun _ _ h => h) (fun p0 p1 p2 v3 ⟨m, h⟩ => ⟨m, (T5_0 _ (fun b6e4 h => kcO (t5c0x0_eq _ _ _ _ _ _) (t5c0x0_mono (fun _ _ h => h) _ _ _ _ _ h)) (fun h => kcO (t5c0x1_eq _ _ _ _ _) (t5c0x1_mono (fun _ _ h => h) _ _ _ _ h)) m _ _ _ _ _ _ h).out⟩) p0 p1 p2 h)
theorem env5 : EnvOk Try.prog E5 := .cons spec8 (by kernel_rfl) <| .cons spec9 (by kernel_rfl) <| .cons spec11 (by kernel_rfl) <| .nil
theorem getE_at (d : List Bool) (i : Nat) : getE K.bool d (i : Int) = d.getD i false := by
  unfold getE
  rw [Int.toNat_natCast]
  rfl
theorem loop5_2 (d : List Bool) (x a b c : Int) (rs : List Rung) (R0 : List Bool → Int → Int → Int → Int → Int → List Rung → Prop) (hn : d.length ≤ 64) (m : Nat) (hm : m < d.length) (hd : d.getD m false = true) (h : R0 d x (m : Int) a b c rs) :
    ∀ n (i : Nat), m - i < n → i ≤ m → (∀ t, i ≤ t → t < m → d.getD t false = false) → G5_2 R0 n d x i a b c rs := by
  intro n
  induction n with
  | zero => intro i h; omega
  | succ n ih =>
    intro i hi him ht
    refine brP_intro (fun e => ⟨⟨by omega, by omega⟩, ?_⟩) (fun e => absurd (of_decide_eq_false e) (by omega))
    rw [getE_at]
    by_cases c : i = m
    · subst c
      rw [hd]
      exact h
    · rw [ht i (by omega) (by omega), wrap_in (x := (i : Int) + 1) (by omega) (by omega)]
      exact ih (i + 1) (by omega) (by omega) fun t a b => ht t (by omega) b
theorem loop5 (l : Lad) (d : List Bool) (R0 : Bool → Prop) (R1 : Prop) (hl : d.length = l.rungs.length) (hn : d.length ≤ 64) (h1 : R1)
    (hj : ∀ j, j + 1 < l.rungs.length → d.getD j false = true → d.getD (j + 1) false = false → Jumped l d j) :
    ∀ n (i : Nat), d.length - i < n → i ≤ d.length → G5_0 R0 R1 n d i l.1 l.2.1 l.2.2.1 l.rungs := by
  intro n
  induction n with
  | zero => intro i h; omega
  | succ n ih =>
    intro i hi hil
    refine brP_intro (fun e => ?_) (fun e => h1)
    have hlt : i < d.length := by simpa using e
    have hw : IntKind.wrap IntKind.i64 ((i : Int) + 1) = ((i + 1 : Nat) : Int) := by rw [wrap_in (by omega) (by omega)]; omega
    rw [getE_at, hw]
    refine ⟨⟨by omega, by omega⟩, brP_intro (fun c => ih (i + 1) (by omega) (by omega)) (fun c => ?_)⟩
    have c : d.getD i false = true := by simpa using c
    refine brP_intro (fun e2 => ih (i + 1) (by omega) (by omega)) (fun e2 => ?_)
    have e2 : ¬ ((i + 1 : Nat) : Int) ≥ (d.length : Int) := of_decide_eq_false e2
    rw [getE_at]
    refine ⟨⟨by omega, by omega⟩, brP_intro (fun c2 => ih (i + 1) (by omega) (by omega)) (fun c2 => ?_)⟩
    obtain ⟨m, m1, m2, m3, m4, m5, m6⟩ := hj i (by omega) c c2
    have hb : ∀ x y : ByteArray, (x.toList == y.toList) = decide (x = y) := fun x y => strEq x y
    refine ⟨m + 1, ?_⟩
    rw [hw]
    refine loop5_2 d i l.1 l.2.1 l.2.2.1 l.rungs _ hn m m2 m3 ?_ (m + 1) (i + 1) (by omega) (by omega) fun t a b => m4 t (by omega) b
    refine brP_intro (fun c3 => ?_) (fun c3 => ⟨⟨by omega, by omega⟩, ?_⟩)
    · have c3 : ((m : Nat) : Int) = ((d.length : Nat) : Int) := by simpa using c3
      omega
    · refine brP_intro (fun c4 => ?_) (fun c4 => ⟨⟨by omega, by omega⟩, ⟨by omega, by omega⟩, ?_⟩)
      · rw [hb] at c4
        exact absurd (of_decide_eq_true c4) m5
      · refine brP_intro (fun c5 => ?_) (fun c5 => ?_)
        · rw [bne, hb] at c5
          have c6 : ¬ (getE k45 l.rungs ↑m).fst = (getE k45 l.rungs ↑i).snd.snd.snd := by simpa using c5
          exact absurd m6 c6
        · rw [hw]; exact ih (i + 1) (by omega) (by omega)
theorem small_of_big {s : Sta} (h : bigS s = false) : small s := by
  unfold bigS at h
  simp only [Bool.or_eq_false_iff, decide_eq_false_iff_not] at h
  exact ⟨by omega, by omega, by omega⟩
theorem spec5 : SpecOk Try.prog 5 sp5 := S3.ok tt_ok mixed env5 Try.func5 fun (l : Lad) (st : Sta) (inp : List Bool) Q h => ok5 Q l st inp <| by
  obtain ⟨h1, hq⟩ := h
  refine ⟨⟨h1, by simp⟩, fun v hv hok => brP_intro (fun c => hq) (fun c => ?_)⟩
  have c : ¬ v > 0 := of_decide_eq_false c
  have v0 : v = 0 := by rcases hv with h | h <;> omega
  obtain ⟨o1, o2, o3, o4⟩ := hok v0
  refine ⟨small_of_big o2, brP_intro (fun e => ?_) (fun e => ?_)⟩
  · rw [e]; exact hq
  · have e : (scanL l inp st).2.2 = 0 := by simpa using e
    obtain ⟨d1, d2, d3, d4⟩ := scanL_did e
    refine brP_intro (fun e2 => ?_) (fun e2 => ?_)
    · have e2 : ¬ (((scanL l inp st).2.1.length : Nat) : Int) = ((l.rungs.length : Nat) : Int) := by simpa using e2
      omega
    · exact ⟨(scanL l inp st).2.1.length + 1, loop5 l _ _ _ d1 (by omega) hq d4 _ 0 (by omega) (by omega)⟩
end Go.AM
