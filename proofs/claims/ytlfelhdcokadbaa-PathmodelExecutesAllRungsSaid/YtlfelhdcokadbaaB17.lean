/- Functions of the program: what the laws let in. Conditions: none. -/
import Derived.Test.YtlfelhdcokadbaaD2
set_option linter.all false
namespace Go.AM
open Go.Proofs
-- f33 "busbar/busbarlaw11.TooLarge" ['24'] -> ['3']
def A33 : Ann := [(0, [1, 3, 9, 10, 11], [1, 3], [2]), (2, [1, 3, 9, 10, 11, 33, 34, 35], [1, 3, 9, 10, 11], [2])]
def E33 : Env := []
def I33 (p0 : (k23 : K).ty) : List V1 := [nfK k23 p0]
noncomputable def L33_0 : Code := Code.a (Code.a (Code.b (Code.a (Code.b (Code.b (Func.code Try.f33))))))
def S33_0 (x3 : Int) (l9 : List (K.ty k45)) (x10 : Int) (x11 : Int) (xh0_0 : Int) (xh0_1 : Int) (xh0_2 : Int) (lh0_3 : List (K.ty k45)) : St := sp (58 : Nat) [((1 : Nat), V.v (V1.one (Lf.ptr (nat_lit 0) (nat_lit 0)))), ((3 : Nat), V.v (V1.one (Lf.int IntKind.i64 x3))), ((9 : Nat), V.v (V1.one (Lf.sl (46 : TypeId) k45 l9))), ((10 : Nat), V.v (V1.one (Lf.int IntKind.i64 x10))), ((11 : Nat), V.v (V1.one (Lf.int IntKind.i64 x11)))] [Ob.box (24 : Nat) [Lf.int IntKind.i64 xh0_0, Lf.int IntKind.i64 xh0_1, Lf.int IntKind.i64 xh0_2, Lf.sl (46 : TypeId) k45 lh0_3]]
def X33_0_0 (x3 : Int) (xh0_0 : Int) (xh0_1 : Int) (xh0_2 : Int) (lh0_3 : List (K.ty k45)) : St := sp (58 : Nat) [((1 : Nat), V.v (V1.one (Lf.ptr (nat_lit 0) (nat_lit 0)))), ((3 : Nat), V.v (V1.one (Lf.int IntKind.i64 x3)))] [Ob.box (24 : Nat) [Lf.int IntKind.i64 xh0_0, Lf.int IntKind.i64 xh0_1, Lf.int IntKind.i64 xh0_2, Lf.sl (46 : TypeId) k45 lh0_3]]
noncomputable def L33_2 : Code := Code.a (Code.a (Code.b (Code.b (Code.b (Code.a (Code.a (Code.b (Code.b (Code.a (Code.a (Code.b (Code.a (Code.b (Code.b (Func.code Try.f33)))))))))))))))
def S33_2 (x3 : Int) (l9 : List (K.ty k45)) (x10 : Int) (x11 : Int) (l33 : List (K.ty k74)) (x34 : Int) (x35 : Int) (xh0_0 : Int) (xh0_1 : Int) (xh0_2 : Int) (lh0_3 : List (K.ty k45)) : St := sp (58 : Nat) [((1 : Nat), V.v (V1.one (Lf.ptr (nat_lit 0) (nat_lit 0)))), ((3 : Nat), V.v (V1.one (Lf.int IntKind.i64 x3))), ((9 : Nat), V.v (V1.one (Lf.sl (46 : TypeId) k45 l9))), ((10 : Nat), V.v (V1.one (Lf.int IntKind.i64 x10))), ((11 : Nat), V.v (V1.one (Lf.int IntKind.i64 x11))), ((33 : Nat), V.v (V1.one (Lf.sl (75 : TypeId) k74 l33))), ((34 : Nat), V.v (V1.one (Lf.int IntKind.i64 x34))), ((35 : Nat), V.v (V1.one (Lf.int IntKind.i64 x35)))] [Ob.box (24 : Nat) [Lf.int IntKind.i64 xh0_0, Lf.int IntKind.i64 xh0_1, Lf.int IntKind.i64 xh0_2, Lf.sl (46 : TypeId) k45 lh0_3]]
def X33_2_0 (x3 : Int) (l9 : List (K.ty k45)) (x10 : Int) (x11 : Int) (xh0_0 : Int) (xh0_1 : Int) (xh0_2 : Int) (lh0_3 : List (K.ty k45)) : St := sp (58 : Nat) [((1 : Nat), V.v (V1.one (Lf.ptr (nat_lit 0) (nat_lit 0)))), ((3 : Nat), V.v (V1.one (Lf.int IntKind.i64 x3))), ((9 : Nat), V.v (V1.one (Lf.sl (46 : TypeId) k45 l9))), ((10 : Nat), V.v (V1.one (Lf.int IntKind.i64 x10))), ((11 : Nat), V.v (V1.one (Lf.int IntKind.i64 x11)))] [Ob.box (24 : Nat) [Lf.int IntKind.i64 xh0_0, Lf.int IntKind.i64 xh0_1, Lf.int IntKind.i64 xh0_2, Lf.sl (46 : TypeId) k45 lh0_3]]
def t33_2 (again : Int → List (K.ty k45) → Int → Int → List (K.ty k74) → Int → Int → Int → Int → Int → List (K.ty k45) → Prop) (R0 : Int → List (K.ty k45) → Int → Int → Int → Int → Int → List (K.ty k45) → Prop) (x3 : Int) (l9 : List (K.ty k45)) (x10 : Int) (x11 : Int) (l33 : List (K.ty k74)) (x34 : Int) (x35 : Int) (xh0_0 : Int) (xh0_1 : Int) (xh0_2 : Int) (lh0_3 : List (K.ty k45)) : Prop :=
  brP (decide (x35 < x34)) (bound x35 (List.length l33) ∧ again (IntKind.wrap IntKind.i64 (x3 + IntKind.wrap IntKind.i64 ((↑(ByteArray.size (getE k74 l33 x35).snd.snd.fst) : Int) + (↑(ByteArray.size (getE k74 l33 x35).snd.snd.snd) : Int)))) l9 x10 x11 l33 x34 (IntKind.wrap IntKind.i64 (x35 + (1 : Int))) xh0_0 xh0_1 xh0_2 lh0_3) (R0 x3 l9 x10 x11 xh0_0 xh0_1 xh0_2 lh0_3)
theorem t33_2_mono {again : Int → List (K.ty k45) → Int → Int → List (K.ty k74) → Int → Int → Int → Int → Int → List (K.ty k45) → Prop} {R0 : Int → List (K.ty k45) → Int → Int → Int → Int → Int → List (K.ty k45) → Prop} {again' : Int → List (K.ty k45) → Int → Int → List (K.ty k74) → Int → Int → Int → Int → Int → List (K.ty k45) → Prop} {R0' : Int → List (K.ty k45) → Int → Int → Int → Int → Int → List (K.ty k45) → Prop} (ha : ∀ x3 l9 x10 x11 l33 x34 x35 xh0_0 xh0_1 xh0_2 lh0_3, again x3 l9 x10 x11 l33 x34 x35 xh0_0 xh0_1 xh0_2 lh0_3 → again' x3 l9 x10 x11 l33 x34 x35 xh0_0 xh0_1 xh0_2 lh0_3) (hr0 : ∀ x3 l9 x10 x11 xh0_0 xh0_1 xh0_2 lh0_3, R0 x3 l9 x10 x11 xh0_0 xh0_1 xh0_2 lh0_3 → R0' x3 l9 x10 x11 xh0_0 xh0_1 xh0_2 lh0_3) (x3 : Int) (l9 : List (K.ty k45)) (x10 : Int) (x11 : Int) (l33 : List (K.ty k74)) (x34 : Int) (x35 : Int) (xh0_0 : Int) (xh0_1 : Int) (xh0_2 : Int) (lh0_3 : List (K.ty k45)) :
    t33_2 again R0 x3 l9 x10 x11 l33 x34 x35 xh0_0 xh0_1 xh0_2 lh0_3 → t33_2 again' R0' x3 l9 x10 x11 l33 x34 x35 xh0_0 xh0_1 xh0_2 lh0_3 :=
  brM (andM (id) (ha _ _ _ _ _ _ _ _ _ _ _)) (hr0 _ _ _ _ _ _ _ _)
theorem t33_2_eq (n : Nat) (Q : Ex → St → Prop) (x3 : Int) (l9 : List (K.ty k45)) (x10 : Int) (x11 : Int) (l33 : List (K.ty k74)) (x34 : Int) (x35 : Int) (xh0_0 : Int) (xh0_1 : Int) (xh0_2 : Int) (lh0_3 : List (K.ty k45)) :
    t33_2 (fun x3 l9 x10 x11 l33 x34 x35 xh0_0 xh0_1 xh0_2 lh0_3 => loopP (awp tt E33 A33 L33_2 2) ([(1 : Nat), (3 : Nat), (9 : Nat), (10 : Nat), (11 : Nat), (33 : Nat), (34 : Nat), (35 : Nat)], [(1 : Nat), (3 : Nat), (9 : Nat), (10 : Nat), (11 : Nat)], [(2 : Nat)]) n (S33_2 x3 l9 x10 x11 l33 x34 x35 xh0_0 xh0_1 xh0_2 lh0_3) Q) (fun x3 l9 x10 x11 xh0_0 xh0_1 xh0_2 lh0_3 => Q (Ex.exit (nat_lit 2)) (X33_2_0 x3 l9 x10 x11 xh0_0 xh0_1 xh0_2 lh0_3)) x3 l9 x10 x11 l33 x34 x35 xh0_0 xh0_1 xh0_2 lh0_3 = (loopP (awp tt E33 A33 L33_2 2) ([(1 : Nat), (3 : Nat), (9 : Nat), (10 : Nat), (11 : Nat), (33 : Nat), (34 : Nat), (35 : Nat)], [(1 : Nat), (3 : Nat), (9 : Nat), (10 : Nat), (11 : Nat)], [(2 : Nat)]) (n + 1) (S33_2 x3 l9 x10 x11 l33 x34 x35 xh0_0 xh0_1 xh0_2 lh0_3) Q) := by kernel_rfl
def G33_2 (R0 : Int → List (K.ty k45) → Int → Int → Int → Int → Int → List (K.ty k45) → Prop) : Nat → Int → List (K.ty k45) → Int → Int → List (K.ty k74) → Int → Int → Int → Int → Int → List (K.ty k45) → Prop
  | 0, _, _, _, _, _, _, _, _, _, _, _ => False
  | n + 1, x3, l9, x10, x11, l33, x34, x35, xh0_0, xh0_1, xh0_2, lh0_3 => t33_2 (G33_2 R0 n) R0 x3 l9 x10 x11 l33 x34 x35 xh0_0 xh0_1 xh0_2 lh0_3
theorem T33_2 {R0 : Int → List (K.ty k45) → Int → Int → Int → Int → Int → List (K.ty k45) → Prop} (Q : Ex → St → Prop) (hr0 : ∀ x3 l9 x10 x11 xh0_0 xh0_1 xh0_2 lh0_3, R0 x3 l9 x10 x11 xh0_0 xh0_1 xh0_2 lh0_3 → Of (Q (Ex.exit (nat_lit 2)) (X33_2_0 x3 l9 x10 x11 xh0_0 xh0_1 xh0_2 lh0_3))) : ∀ (n : Nat) (x3 : Int) (l9 : List (K.ty k45)) (x10 : Int) (x11 : Int) (l33 : List (K.ty k74)) (x34 : Int) (x35 : Int) (xh0_0 : Int) (xh0_1 : Int) (xh0_2 : Int) (lh0_3 : List (K.ty k45)), G33_2 R0 n x3 l9 x10 x11 l33 x34 x35 xh0_0 xh0_1 xh0_2 lh0_3 → Of (loopP (awp tt E33 A33 L33_2 2) ([(1 : Nat), (3 : Nat), (9 : Nat), (10 : Nat), (11 : Nat), (33 : Nat), (34 : Nat), (35 : Nat)], [(1 : Nat), (3 : Nat), (9 : Nat), (10 : Nat), (11 : Nat)], [(2 : Nat)]) n (S33_2 x3 l9 x10 x11 l33 x34 x35 xh0_0 xh0_1 xh0_2 lh0_3) Q) := by
  intro n
  induction n with
  | zero => intro x3 l9 x10 x11 l33 x34 x35 xh0_0 xh0_1 xh0_2 lh0_3 h; exact h.elim
  | succ n ih =>
    intro x3 l9 x10 x11 l33 x34 x35 xh0_0 xh0_1 xh0_2 lh0_3 h
    exact kcO (t33_2_eq n Q x3 l9 x10 x11 l33 x34 x35 xh0_0 xh0_1 xh0_2 lh0_3) (t33_2_mono (fun _ _ _ _ _ _ _ _ _ _ _ h => (ih _ _ _ _ _ _ _ _ _ _ _ h).out) (fun _ _ _ _ _ _ _ _ h => (hr0 _ _ _ _ _ _ _ _ h).out) x3 l9 x10 x11 l33 x34 x35 xh0_0 xh0_1 xh0_2 lh0_3 h)
def t33_0 (again : Int → List (K.ty k45) → Int → Int → Int → Int → Int → List (K.ty k45) → Prop) (R0 : Int → Int → Int → Int → List (K.ty k45) → Prop) (lp0 : Int → List (K.ty k45) → Int → Int → Int → Int → Int → List (K.ty k45) → Prop) (x3 : Int) (l9 : List (K.ty k45)) (x10 : Int) (x11 : Int) (xh0_0 : Int) (xh0_1 : Int) (xh0_2 : Int) (lh0_3 : List (K.ty k45)) : Prop :=
  brP (decide (x11 < x10)) (bound x11 (List.length l9) ∧ lp0 x3 l9 x10 x11 xh0_0 xh0_1 xh0_2 lh0_3) (R0 x3 xh0_0 xh0_1 xh0_2 lh0_3)
theorem t33_0_mono {again : Int → List (K.ty k45) → Int → Int → Int → Int → Int → List (K.ty k45) → Prop} {R0 : Int → Int → Int → Int → List (K.ty k45) → Prop} {again' : Int → List (K.ty k45) → Int → Int → Int → Int → Int → List (K.ty k45) → Prop} {R0' : Int → Int → Int → Int → List (K.ty k45) → Prop} {lp0 : Int → List (K.ty k45) → Int → Int → Int → Int → Int → List (K.ty k45) → Prop} {lp0' : Int → List (K.ty k45) → Int → Int → Int → Int → Int → List (K.ty k45) → Prop} (ha : ∀ x3 l9 x10 x11 xh0_0 xh0_1 xh0_2 lh0_3, again x3 l9 x10 x11 xh0_0 xh0_1 xh0_2 lh0_3 → again' x3 l9 x10 x11 xh0_0 xh0_1 xh0_2 lh0_3) (hr0 : ∀ x3 xh0_0 xh0_1 xh0_2 lh0_3, R0 x3 xh0_0 xh0_1 xh0_2 lh0_3 → R0' x3 xh0_0 xh0_1 xh0_2 lh0_3) (hlp0 : ∀ x3 l9 x10 x11 xh0_0 xh0_1 xh0_2 lh0_3, lp0 x3 l9 x10 x11 xh0_0 xh0_1 xh0_2 lh0_3 → lp0' x3 l9 x10 x11 xh0_0 xh0_1 xh0_2 lh0_3) (x3 : Int) (l9 : List (K.ty k45)) (x10 : Int) (x11 : Int) (xh0_0 : Int) (xh0_1 : Int) (xh0_2 : Int) (lh0_3 : List (K.ty k45)) :
    t33_0 again R0 lp0 x3 l9 x10 x11 xh0_0 xh0_1 xh0_2 lh0_3 → t33_0 again' R0' lp0' x3 l9 x10 x11 xh0_0 xh0_1 xh0_2 lh0_3 :=
  brM (andM (id) (hlp0 _ _ _ _ _ _ _ _)) (hr0 _ _ _ _ _)
theorem t33_0_eq (n : Nat) (Q : Ex → St → Prop) (x3 : Int) (l9 : List (K.ty k45)) (x10 : Int) (x11 : Int) (xh0_0 : Int) (xh0_1 : Int) (xh0_2 : Int) (lh0_3 : List (K.ty k45)) :
    t33_0 (fun x3 l9 x10 x11 xh0_0 xh0_1 xh0_2 lh0_3 => loopP (awp tt E33 A33 L33_0 0) ([(1 : Nat), (3 : Nat), (9 : Nat), (10 : Nat), (11 : Nat)], [(1 : Nat), (3 : Nat)], [(2 : Nat)]) n (S33_0 x3 l9 x10 x11 xh0_0 xh0_1 xh0_2 lh0_3) Q) (fun x3 xh0_0 xh0_1 xh0_2 lh0_3 => Q (Ex.exit (nat_lit 0)) (X33_0_0 x3 xh0_0 xh0_1 xh0_2 lh0_3)) (fun x3 l9 x10 x11 xh0_0 xh0_1 xh0_2 lh0_3 => ∃ m, loopP (awp tt E33 A33 L33_2 2) ([(1 : Nat), (3 : Nat), (9 : Nat), (10 : Nat), (11 : Nat), (33 : Nat), (34 : Nat), (35 : Nat)], [(1 : Nat), (3 : Nat), (9 : Nat), (10 : Nat), (11 : Nat)], [(2 : Nat)]) m (S33_2 (IntKind.wrap IntKind.i64 (x3 + IntKind.wrap IntKind.i64 (IntKind.wrap IntKind.i64 (IntKind.wrap IntKind.i64 ((↑(List.length (getE k45 l9 x11).snd.fst) : Int) + (↑(List.length (getE k45 l9 x11).snd.snd.fst) : Int)) + (↑(ByteArray.size (getE k45 l9 x11).fst) : Int)) + (↑(ByteArray.size (getE k45 l9 x11).snd.snd.snd) : Int)))) (l9) (x10) (x11) ((getE k45 l9 x11).snd.fst) ((↑(List.length (getE k45 l9 x11).snd.fst) : Int)) ((0 : Int)) (xh0_0) (xh0_1) (xh0_2) (lh0_3)) (blkC (2 : Nat) (blkC (1 : Nat) (seqC (awp tt E33 A33 (Code.b (Code.b (Code.b (Code.a (Code.a (Code.b (Code.a (Code.b (Code.b (Func.code Try.f33)))))))))) (0 : Nat)) (loopC (awp tt E33 A33 (Code.a (Code.a (Code.b (Code.a (Code.b (Code.b (Func.code Try.f33))))))) (0 : Nat)) ([(1 : Nat), (3 : Nat), (9 : Nat), (10 : Nat), (11 : Nat)], [(1 : Nat), (3 : Nat)], [(2 : Nat)]) n Q))))) x3 l9 x10 x11 xh0_0 xh0_1 xh0_2 lh0_3 = (loopP (awp tt E33 A33 L33_0 0) ([(1 : Nat), (3 : Nat), (9 : Nat), (10 : Nat), (11 : Nat)], [(1 : Nat), (3 : Nat)], [(2 : Nat)]) (n + 1) (S33_0 x3 l9 x10 x11 xh0_0 xh0_1 xh0_2 lh0_3) Q) := by kernel_rfl
def t33_0c0x0 (again : Int → List (K.ty k45) → Int → Int → Int → Int → Int → List (K.ty k45) → Prop) (R0 : Int → Int → Int → Int → List (K.ty k45) → Prop) (x3 : Int) (l9 : List (K.ty k45)) (x10 : Int) (x11 : Int) (xh0_0 : Int) (xh0_1 : Int) (xh0_2 : Int) (lh0_3 : List (K.ty k45)) (x3e8 : Int) (l9e8 : List (K.ty k45)) (x10e8 : Int) (x11e8 : Int) (xh0_0e8 : Int) (xh0_1e8 : Int) (xh0_2e8 : Int) (lh0_3e8 : List (K.ty k45)) : Prop :=
  again x3e8 l9e8 x10e8 (IntKind.wrap IntKind.i64 (x11e8 + (1 : Int))) xh0_0e8 xh0_1e8 xh0_2e8 lh0_3e8
theorem t33_0c0x0_mono {again : Int → List (K.ty k45) → Int → Int → Int → Int → Int → List (K.ty k45) → Prop} {R0 : Int → Int → Int → Int → List (K.ty k45) → Prop} {again' : Int → List (K.ty k45) → Int → Int → Int → Int → Int → List (K.ty k45) → Prop} {R0' : Int → Int → Int → Int → List (K.ty k45) → Prop} (ha : ∀ x3 l9 x10 x11 xh0_0 xh0_1 xh0_2 lh0_3, again x3 l9 x10 x11 xh0_0 xh0_1 xh0_2 lh0_3 → again' x3 l9 x10 x11 xh0_0 xh0_1 xh0_2 lh0_3) (hr0 : ∀ x3 xh0_0 xh0_1 xh0_2 lh0_3, R0 x3 xh0_0 xh0_1 xh0_2 lh0_3 → R0' x3 xh0_0 xh0_1 xh0_2 lh0_3) (x3 : Int) (l9 : List (K.ty k45)) (x10 : Int) (x11 : Int) (xh0_0 : Int) (xh0_1 : Int) (xh0_2 : Int) (lh0_3 : List (K.ty k45)) (x3e8 : Int) (l9e8 : List (K.ty k45)) (x10e8 : Int) (x11e8 : Int) (xh0_0e8 : Int) (xh0_1e8 : Int) (xh0_2e8 : Int) (lh0_3e8 : List (K.ty k45)) :
    t33_0c0x0 again R0 x3 l9 x10 x11 xh0_0 xh0_1 xh0_2 lh0_3 x3e8 l9e8 x10e8 x11e8 xh0_0e8 xh0_1e8 xh0_2e8 lh0_3e8 → t33_0c0x0 again' R0' x3 l9 x10 x11 xh0_0 xh0_1 xh0_2 lh0_3 x3e8 l9e8 x10e8 x11e8 xh0_0e8 xh0_1e8 xh0_2e8 lh0_3e8 :=
  ha _ _ _ _ _ _ _ _
theorem t33_0c0x0_eq (n : Nat) (Q : Ex → St → Prop) (x3 : Int) (l9 : List (K.ty k45)) (x10 : Int) (x11 : Int) (xh0_0 : Int) (xh0_1 : Int) (xh0_2 : Int) (lh0_3 : List (K.ty k45)) (x3e8 : Int) (l9e8 : List (K.ty k45)) (x10e8 : Int) (x11e8 : Int) (xh0_0e8 : Int) (xh0_1e8 : Int) (xh0_2e8 : Int) (lh0_3e8 : List (K.ty k45)) :
    t33_0c0x0 (fun x3 l9 x10 x11 xh0_0 xh0_1 xh0_2 lh0_3 => loopP (awp tt E33 A33 L33_0 0) ([(1 : Nat), (3 : Nat), (9 : Nat), (10 : Nat), (11 : Nat)], [(1 : Nat), (3 : Nat)], [(2 : Nat)]) n (S33_0 x3 l9 x10 x11 xh0_0 xh0_1 xh0_2 lh0_3) Q) (fun x3 xh0_0 xh0_1 xh0_2 lh0_3 => Q (Ex.exit (nat_lit 0)) (X33_0_0 x3 xh0_0 xh0_1 xh0_2 lh0_3)) x3 l9 x10 x11 xh0_0 xh0_1 xh0_2 lh0_3 x3e8 l9e8 x10e8 x11e8 xh0_0e8 xh0_1e8 xh0_2e8 lh0_3e8 = ((blkC (2 : Nat) (blkC (1 : Nat) (seqC (awp tt E33 A33 (Code.b (Code.b (Code.b (Code.a (Code.a (Code.b (Code.a (Code.b (Code.b (Func.code Try.f33)))))))))) (0 : Nat)) (loopC (awp tt E33 A33 (Code.a (Code.a (Code.b (Code.a (Code.b (Code.b (Func.code Try.f33))))))) (0 : Nat)) ([(1 : Nat), (3 : Nat), (9 : Nat), (10 : Nat), (11 : Nat)], [(1 : Nat), (3 : Nat)], [(2 : Nat)]) n Q)))) (Ex.exit (nat_lit 2)) (X33_2_0 x3e8 l9e8 x10e8 x11e8 xh0_0e8 xh0_1e8 xh0_2e8 lh0_3e8)) := by kernel_rfl
def G33_0 (R0 : Int → Int → Int → Int → List (K.ty k45) → Prop) : Nat → Int → List (K.ty k45) → Int → Int → Int → Int → Int → List (K.ty k45) → Prop
  | 0, _, _, _, _, _, _, _, _ => False
  | n + 1, x3, l9, x10, x11, xh0_0, xh0_1, xh0_2, lh0_3 => t33_0 (G33_0 R0 n) R0 (fun x3 l9 x10 x11 xh0_0 xh0_1 xh0_2 lh0_3 => ∃ m, G33_2 (fun x3e8 l9e8 x10e8 x11e8 xh0_0e8 xh0_1e8 xh0_2e8 lh0_3e8 => t33_0c0x0 (G33_0 R0 n) R0 x3 l9 x10 x11 xh0_0 xh0_1 xh0_2 lh0_3 x3e8 l9e8 x10e8 x11e8 xh0_0e8 xh0_1e8 xh0_2e8 lh0_3e8) m (IntKind.wrap IntKind.i64 (x3 + IntKind.wrap IntKind.i64 (IntKind.wrap IntKind.i64 (IntKind.wrap IntKind.i64 ((↑(List.length (getE k45 l9 x11).snd.fst) : Int) + (↑(List.length (getE k45 l9 x11).snd.snd.fst) : Int)) + (↑(ByteArray.size (getE k45 l9 x11).fst) : Int)) + (↑(ByteArray.size (getE k45 l9 x11).snd.snd.snd) : Int)))) (l9) (x10) (x11) ((getE k45 l9 x11).snd.fst) ((↑(List.length (getE k45 l9 x11).snd.fst) : Int)) ((0 : Int)) (xh0_0) (xh0_1) (xh0_2) (lh0_3)) x3 l9 x10 x11 xh0_0 xh0_1 xh0_2 lh0_3
theorem T33_0 {R0 : Int → Int → Int → Int → List (K.ty k45) → Prop} (Q : Ex → St → Prop) (hr0 : ∀ x3 xh0_0 xh0_1 xh0_2 lh0_3, R0 x3 xh0_0 xh0_1 xh0_2 lh0_3 → Of (Q (Ex.exit (nat_lit 0)) (X33_0_0 x3 xh0_0 xh0_1 xh0_2 lh0_3))) : ∀ (n : Nat) (x3 : Int) (l9 : List (K.ty k45)) (x10 : Int) (x11 : Int) (xh0_0 : Int) (xh0_1 : Int) (xh0_2 : Int) (lh0_3 : List (K.ty k45)), G33_0 R0 n x3 l9 x10 x11 xh0_0 xh0_1 xh0_2 lh0_3 → Of (loopP (awp tt E33 A33 L33_0 0) ([(1 : Nat), (3 : Nat), (9 : Nat), (10 : Nat), (11 : Nat)], [(1 : Nat), (3 : Nat)], [(2 : Nat)]) n (S33_0 x3 l9 x10 x11 xh0_0 xh0_1 xh0_2 lh0_3) Q) := by
  intro n
  induction n with
  | zero => intro x3 l9 x10 x11 xh0_0 xh0_1 xh0_2 lh0_3 h; exact h.elim
  | succ n ih =>
    intro x3 l9 x10 x11 xh0_0 xh0_1 xh0_2 lh0_3 h
    exact kcO (t33_0_eq n Q x3 l9 x10 x11 xh0_0 xh0_1 xh0_2 lh0_3) (t33_0_mono (fun _ _ _ _ _ _ _ _ h => (ih _ _ _ _ _ _ _ _ h).out) (fun _ _ _ _ _ h => (hr0 _ _ _ _ _ h).out) (fun x3 l9 x10 x11 xh0_0 xh0_1 xh0_2 lh0_3 ⟨m, h⟩ => ⟨m, (T33_2 _ (fun x3e8 l9e8 x10e8 x11e8 xh0_0e8 xh0_1e8 xh0_2e8 lh0_3e8 h => kcO (t33_0c0x0_eq _ _ _ _ _ _ _ _ _ _ _ _ _ _ _ _ _ _) (t33_0c0x0_mono (fun _ _ _ _ _ _ _ _ h => (ih _ _ _ _ _ _ _ _ h).out) (fun _ _ _ _ _ h => (hr0 _ _ _ _ _ h).out) _ _ _ _ _ _ _ _ _ _ _ _ _ _ _ _ h)) m _ _ _ _ _ _ _ _ _ _ _ h).out⟩) x3 l9 x10 x11 xh0_0 xh0_1 xh0_2 lh0_3 h)
def t33 (Q : List V1 → List Ob → Prop) (lp0 : K.ty k23 → Prop) (p0 : K.ty k23) : Prop :=
  lp0 p0
theorem t33_mono {Q : List V1 → List Ob → Prop} {Q' : List V1 → List Ob → Prop} {lp0 : K.ty k23 → Prop} {lp0' : K.ty k23 → Prop} (hq : ∀ r h, Q r h → Q' r h) (hlp0 : ∀ p0, lp0 p0 → lp0' p0) (p0 : K.ty k23) :
    t33 Q lp0 p0 → t33 Q' lp0' p0 :=
  hlp0 _
theorem t33_eq (Q : List V1 → List Ob → Prop) (p0 : K.ty k23) :
    t33 Q (fun p0 => ∃ m, loopP (awp tt E33 A33 L33_0 0) ([(1 : Nat), (3 : Nat), (9 : Nat), (10 : Nat), (11 : Nat)], [(1 : Nat), (3 : Nat)], [(2 : Nat)]) m (S33_0 ((0 : Int)) (p0.snd.snd.snd) ((↑(List.length p0.snd.snd.snd) : Int)) ((0 : Int)) (p0.fst) (p0.snd.fst) (p0.snd.snd.fst) (p0.snd.snd.snd)) (blkC (0 : Nat) (seqC (awp tt E33 A33 (Code.b (Code.b (Code.b (Func.code Try.f33)))) (0 : Nat)) (topC tt Try.f33 0 Q)))) p0 = (afun tt E33 A33 Try.f33 (I33 p0) [] Q) := by kernel_rfl
def t33c0x0 (Q : List V1 → List Ob → Prop) (p0 : K.ty k23) (x3e1 : Int) (xh0_0e1 : Int) (xh0_1e1 : Int) (xh0_2e1 : Int) (lh0_3e1 : List (K.ty k45)) : Prop :=
  brP (decide ((↑(List.length lh0_3e1) : Int) > (70 : Int))) (Q [V1.one (Lf.int IntKind.i64 (1 : Int))] []) (brP (decide (x3e1 > (20000 : Int))) (Q [V1.one (Lf.int IntKind.i64 (1 : Int))] []) (Q [V1.one (Lf.int IntKind.i64 (0 : Int))] []))
theorem t33c0x0_mono {Q : List V1 → List Ob → Prop} {Q' : List V1 → List Ob → Prop} (hq : ∀ r h, Q r h → Q' r h) (p0 : K.ty k23) (x3e1 : Int) (xh0_0e1 : Int) (xh0_1e1 : Int) (xh0_2e1 : Int) (lh0_3e1 : List (K.ty k45)) :
    t33c0x0 Q p0 x3e1 xh0_0e1 xh0_1e1 xh0_2e1 lh0_3e1 → t33c0x0 Q' p0 x3e1 xh0_0e1 xh0_1e1 xh0_2e1 lh0_3e1 :=
  brM (hq _ _) (brM (hq _ _) (hq _ _))
theorem t33c0x0_eq (Q : List V1 → List Ob → Prop) (p0 : K.ty k23) (x3e1 : Int) (xh0_0e1 : Int) (xh0_1e1 : Int) (xh0_2e1 : Int) (lh0_3e1 : List (K.ty k45)) :
    t33c0x0 Q p0 x3e1 xh0_0e1 xh0_1e1 xh0_2e1 lh0_3e1 = ((blkC (0 : Nat) (seqC (awp tt E33 A33 (Code.b (Code.b (Code.b (Func.code Try.f33)))) (0 : Nat)) (topC tt Try.f33 0 Q))) (Ex.exit (nat_lit 0)) (X33_0_0 x3e1 xh0_0e1 xh0_1e1 xh0_2e1 lh0_3e1)) := by kernel_rfl
def H33 (Q : List V1 → List Ob → Prop) (p0 : K.ty k23) : Prop := t33 Q (fun p0 => ∃ m, G33_0 (fun x3e1 xh0_0e1 xh0_1e1 xh0_2e1 lh0_3e1 => t33c0x0 Q p0 x3e1 xh0_0e1 xh0_1e1 xh0_2e1 lh0_3e1) m ((0 : Int)) (p0.snd.snd.snd) ((↑(List.length p0.snd.snd.snd) : Int)) ((0 : Int)) (p0.fst) (p0.snd.fst) (p0.snd.snd.fst) (p0.snd.snd.snd)) p0
theorem ok33 (Q : List V1 → List Ob → Prop) (p0 : K.ty k23) (h : H33 Q p0) : Of (afun tt E33 A33 Try.f33 (I33 p0) [] Q) :=
  kcO (t33_eq Q p0) (t33_mono (fun _ _ h => h) (fun p0 ⟨m, h⟩ => ⟨m, (T33_0 _ (fun x3e1 xh0_0e1 xh0_1e1 xh0_2e1 lh0_3e1 h => kcO (t33c0x0_eq _ _ _ _ _ _ _) (t33c0x0_mono (fun _ _ h => h) _ _ _ _ _ _ h)) m _ _ _ _ _ _ _ _ h).out⟩) p0 h)
theorem env33 : EnvOk Try.prog E33 := .nil
theorem getE_mem45' {l : List Rung} {i : Nat} (h : i < l.length) : getE k45 l i ∈ l := by
  have : getE k45 l i = l[i] := by simp [getE, List.getD, h]
  rw [this]; exact List.getElem_mem h
theorem loop33b (rs : List Rung) (x10 x11 a b c : Int) (lh : List Rung) (cs : List Con) (R0 : Int → List Rung → Int → Int → Int → Int → Int → List Rung → Prop) (hl : cs.length ≤ 4611686018427387904) (h : ∀ x3, R0 x3 rs x10 x11 a b c lh) :
    ∀ n (i : Nat) (x3 : Int), cs.length - i < n → i ≤ cs.length → G33_2 R0 n x3 rs x10 x11 cs cs.length i a b c lh := by
  intro n
  induction n with
  | zero => intro i x3 h; omega
  | succ n ih =>
    intro i x3 hn hi
    refine brP_intro (fun d => ?_) (fun d => h _)
    have d : i < cs.length := by simpa using d
    refine ⟨⟨by omega, by omega⟩, ?_⟩
    rw [wrap_in (x := (i : Int) + 1) (by omega) (by omega)]
    exact ih (i + 1) _ (by omega) (by omega)
theorem loop33a (rs : List Rung) (a b c : Int) (R0 : Int → Int → Int → Int → List Rung → Prop) (hl : rs.length ≤ 4611686018427387904) (hc : ∀ r ∈ rs, (Rung.contacts r).length ≤ 4611686018427387904) (h : ∀ x3, R0 x3 a b c rs) :
    ∀ n (i : Nat) (x3 : Int), rs.length - i < n → i ≤ rs.length → G33_0 R0 n x3 rs rs.length i a b c rs := by
  intro n
  induction n with
  | zero => intro i x3 h; omega
  | succ n ih =>
    intro i x3 hn hi
    refine brP_intro (fun d => ?_) (fun d => h _)
    have d : i < rs.length := by simpa using d
    refine ⟨⟨by omega, by omega⟩, (Rung.contacts (getE k45 rs i)).length + 1, ?_⟩
    refine loop33b rs _ _ _ _ _ _ (Rung.contacts (getE k45 rs i)) _ (hc _ (getE_mem45' d)) (fun x => ?_) _ 0 _ (by omega) (by omega)
    show G33_0 R0 n x rs rs.length (IntKind.i64.wrap ((i : Int) + 1)) a b c rs
    rw [wrap_in (by omega) (by omega)]
    exact ih (i + 1) x (by omega) (by omega)
theorem spec33 : SpecOk Try.prog 33 sp33 := S1.ok tt_ok mixed env33 Try.func33 fun (l : Lad) Q h => ok33 Q l <| by
  obtain ⟨⟨h1, h2⟩, h⟩ := h
  refine ⟨(Lad.rungs l).length + 1, loop33a (Lad.rungs l) l.1 l.2.1 l.2.2.1 _ h1 h2 (fun x => ?_) _ 0 0 (by omega) (by omega)⟩
  refine brP_intro (fun d => h 1 (.inr rfl) (fun e => by cases e)) (fun d => ?_)
  refine brP_intro (fun e => h 1 (.inr rfl) (fun e => by cases e)) (fun e => h 0 (.inl rfl) fun _ => ?_)
  have d2 : ¬ ((Lad.rungs l).length : Int) > 70 := by simpa using d
  show (Lad.rungs l).length ≤ 70
  omega
end Go.AM
