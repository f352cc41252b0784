/- What the law's row leans on, part 4: an abstract machine over loaded code, functions of the program and their specs. Conditions: none. -/
import Derived.Below
import Derived.Deep.Draws
import Derived.Laws.MakeOwn
import Derived.OrdersHeld
import Derived.KernelRfl
import Derived.Laws.Small
import Derived.Laws.Cover3
import Derived.Laws.RangeAny
import Derived.Laws.Strings
import Derived.Great.BuildSlice
import Derived.MapKept
import Derived.Deep.LoopGhost
import Derived.OrdersIn
import Derived.TacticsIn
import Derived.RangeFuncNested
import Derived.Lib.SlicesS
import Derived.Test.YtlfelhdcokadbaaProg
import Derived.Test.YtlfelhdcokadbaaM3
set_option linter.all false
namespace Go.AM
open Go.Proofs
-- f33 "busbar/busbarlaw11.TooLarge" ['24'] -> ['3']
def A33 : Ann := [(0, [1, 3, 9, 10, 11], [1, 3], [2]), (2, [1, 3, 9, 10, 11, 33, 34, 35], [1, 3, 9, 10, 11], [2])]
def E33 : Env := []
def I33 (p0 : (k23 : K).ty) : List V1 := [nfK k23 p0]
noncomputable def L33_0 : Code := Code.a (Code.a (Code.b (Code.a (Code.b (Code.b (Func.code Try.f33))))))
def S33_0 (x3 : Int) (l9 : List (K.ty k45)) (x10 : Int) (x11 : Int) (xh0_0 : Int) (xh0_1 : Int) (xh0_2 : Int) (lh0_3 : List (K.ty k45)) : St := sp (58 : Nat) [((1 : Nat), V.v (V1.one (Lf.ptr (nat_lit 0) (nat_lit 0)))), ((3 : Nat), V.v (V1.one (Lf.int IntKind.i64 x3))), ((9 : Nat), V.v (V1.one (Lf.sl (46 : TypeId) k45 l9))), ((10 : Nat), V.v (V1.one (Lf.int IntKind.i64 x10))), ((11 : Nat), V.v (V1.one (Lf.int IntKind.i64 x11)))] [Ob.box (24 : Nat) [Lf.int IntKind.i64 xh0_0, Lf.int IntKind.i64 xh0_1, Lf.int IntKind.i64 xh0_2, Lf.sl (46 : TypeId) k45 lh0_3]]
def X33_0_0 (x3 : Int) (xh0_0 : Int) (xh0_1 : Int) (xh0_2 : Int) (lh0_3 : List (K.ty k45)) : St := sp (58 : Nat) [((1 : Nat), V.v (V1.one (Lf.ptr (nat_lit 0) (nat_lit 0)))), ((3 : Nat), V.v (V1.one (Lf.int IntKind.i64 x3)))] [Ob.box (24 : Nat) [Lf.int IntKind.i64 xh0_0, Lf.int IntKind.i64 xh0_1, Lf.int IntKind.i64 xh0_2, Lf.sl (46 : TypeId) k45 lh0_3]]
noncomputable def L33_2 : Code := Code.a (Code.a (Code.b (Code.b (Code.b (Code.a (Code.a (Code.b (Code.b (Code.a (Code.a (Code.b (Code.a (Code.b (Code.b (Func.code Try.f33)))))))))))))))
def S33_2 (x3 : Int) (l9 : List (K.ty k45)) (x10 : Int) (x11 : Int) (l33 : List (K.ty k74)) (x34 : Int) (x35 : Int) (xh0_0 : Int) (xh0_1 : Int) (xh0_2 : Int) (lh0_3 : List (K.ty k45)) : St := sp (58 : Nat) [((1 : Nat), V.v (V1.one (Lf.ptr (nat_lit 0) (nat_lit 0)))), ((3 : Nat), V.v (V1.one (Lf.int IntKind.i64 x3))), ((9 : Nat), V.v (V1.one (Lf.sl (46 : TypeId) k45 l9))), ((10 : Nat), V.v (V1.one (Lf.int IntKind.i64 x10))), ((11 : Nat), V.v (V1.one (Lf.int IntKind.i64 x11))), ((33 : Nat), V.v (V1.one (Lf.sl (75 : TypeId) k74 l33))), ((34 : Nat), V.v (V1.one (Lf.int IntKind.i64 x34))), ((35 : Nat), V.v (V1.one (Lf.int IntKind.i64 x35)))] [Ob.box (24 : Nat) [Lf.int IntKind.i64 xh0_0, Lf.int IntKind.i64 xh0_1, Lf.int IntKind.i64 xh0_2, Lf.sl (46 : TypeId) k45 lh0_3]]
def X33_2_0 (x3 : Int) (l9 : List (K.ty k45)) (x10 : Int) (x11 : Int) (xh0_0 : Int) (xh0_1 : Int) (xh0_2 : Int) (lh0_3 : List (K.ty k45)) : St := sp (58 : Nat) [((1 : Nat), V.v (V1.one (Lf.ptr (nat_lit 0) (nat_lit 0)))), ((3 : Nat), V.v (V1.one (Lf.int IntKind.i64 x3))), ((9 : Nat), V.v (V1.one (Lf.sl (46 : TypeId) k45 l9))), ((10 : Nat), V.v (V1.one (Lf.int IntKind.i64 x10))), ((11 : Nat), V.v (V1.one (Lf.int IntKind.i64 x11)))] [Ob.box (24 : Nat) [Lf.int IntKind.i64 xh0_0, Lf.int IntKind.i64 xh0_1, Lf.int IntKind.i64 xh0_2, Lf.sl (46 : TypeId) k45 lh0_3]]
def t33_2 (again : Int → List (K.ty k45) → Int → Int → List (K.ty k74) → Int → Int → Int → Int → Int → List (K.ty k45) → Prop) (R0 : Int → List (K.ty k45) → Int → Int → Int → Int → Int → List (K.ty k45) → Prop) (x3 : Int) (l9 : List (K.ty k45)) (x10 : Int) (x11 : Int) (l33 : List (K.ty k74)) (x34 : Int) (x35 : Int) (xh0_0 : Int) (xh0_1 : Int) (xh0_2 : Int) (lh0_3 : List (K.ty k45)) : Prop :=
  brP (decide (x35 < x34)) (bound x35 (List.length l33) ∧ again (IntKind.wrap IntKind.i64 (x3 + IntKind.wrap IntKind.i64 ((↑(ByteArray.size (getE k74 l33 x35).snd.snd.fst) : Int) + (↑(ByteArray.size (getE k74 l33 x35).snd.snd.snd) : Int)))) l9 x10 x11 l33 x34 (IntKind.wrap IntKind.i64 (x35 + (1 : Int))) xh0_0 xh0_1 xh0_2 lh0_3) (R0 x3 l9 x10 x11 xh0_0 xh0_1 xh0_2 lh0_3)
theorem t33_2_mono {again : Int → List (K.ty k45) → Int → Int → List (K.ty k74) → Int → Int → Int → Int → Int → List (K.ty k45) → Prop} {R0 : Int → List (K.ty k45) → Int → Int → Int → Int → Int → List (K.ty k45) → Prop} {again' : Int → List (K.ty k45) → Int → Int → List (K.ty k74) → Int → Int → Int → Int → Int → List (K.ty k45) → Prop} {R0' : Int → List (K.ty k45) → Int → Int → Int → Int → Int → List (K.ty k45) → Prop} (ha : ∀ x3 l9 x10 x11 l33 x34 x35 xh0_0 xh0_1 xh0_2 lh0_3, again x3 l9 x10 x11 l33 x34 x35 xh0_0 xh0_1 xh0_2 lh0_3 → again' x3 l9 x10 x11 l33 x34 x35 xh0_0 xh0_1 xh0_2 lh0_3) (hr0 : ∀ x3 l9 x10 x11 xh0_0 xh0_1 xh0_2 lh0_3, R0 x3 l9 x10 x11 xh0_0 xh0_1 xh0_2 lh0_3 → R0' x3 l9 x10 x11 xh0_0 xh0_1 xh0_2 lh0_3) (x3 : Int) (l9 : List (K.ty k45)) (x10 : Int) (x11 : Int) (l33 : List (K.ty k74)) (x34 : Int) (x35 : Int) (xh0_0 : Int) (xh0_1 : Int) (xh0_2 : Int) (lh0_3 : List (K.ty k45)) :
    t33_2 again R0 x3 l9 x10 x11 l33 x34 x35 xh0_0 xh0_1 xh0_2 lh0_3 → t33_2 again' R0' x3 l9 x10 x11 l33 x34 x35 xh0_0 xh0_1 xh0_2 lh0_3 :=
  brM (andM (id) (ha _ _ _ _ _ _ _ _ _ _ _)) (hr0 _ _ _ _ _ _ _ _)
theorem t33_2_eq (n : Nat) (Q : Ex → St → Prop) (x3 : Int) (l9 : List (K.ty k45)) (x10 : Int) (x11 : Int) (l33 : List (K.ty k74)) (x34 : Int) (x35 : Int) (xh0_0 : Int) (xh0_1 : Int) (xh0_2 : Int) (lh0_3 : List (K.ty k45)) :
    t33_2 (fun x3 l9 x10 x11 l33 x34 x35 xh0_0 xh0_1 xh0_2 lh0_3 => loopP (awp tt E33 A33 L33_2 2) ([(1 : Nat), (3 : Nat), (9 : Nat), (10 : Nat), (11 : Nat), (33 : Nat), (34 : Nat), (35 : Nat)], [(1 : Nat), (3 : Nat), (9 : Nat), (10 : Nat), (11 : Nat)], [(2 : Nat)]) n (S33_2 x3 l9 x10 x11 l33 x34 x35 xh0_0 xh0_1 xh0_2 lh0_3) Q) (fun x3 l9 x10 x11 xh0_0 xh0_1 xh0_2 lh0_3 => Q (Ex.exit (nat_lit 2)) (X33_2_0 x3 l9 x10 x11 xh0_0 xh0_1 xh0_2 lh0_3)) x3 l9 x10 x11 l33 x34 x35 xh0_0 xh0_1 xh0_2 lh0_3 = (loopP (awp tt E33 A33 L33_2 2) ([(1 : Nat), (3 : Nat), (9 : Nat), (10 : Nat), (11 : Nat), (33 : Nat), (34 : Nat), (35 : Nat)], [(1 : Nat), (3 : Nat), (9 : Nat), (10 : Nat), (11 : Nat)], [(2 : Nat)]) (n + 1) (S33_2 x3 l9 x10 x11 l33 x34 x35 xh0_0 xh0_1 xh0_2 lh0_3) Q) := by kernel_rfl
def G33_2 (R0 : Int → List (K.ty k45) → Int → Int → Int → Int → Int → List (K.ty k45) → Prop) : Nat → Int → List (K.ty k45) → Int → Int → List (K.ty k74) → Int → Int → Int → Int → Int → List (K.ty k45) → Prop
  | 0, _, _, _, _, _, _, _, _, _, _, _ => False
  | n + 1, x3, l9, x10, x11, l33, x34, x35, xh0_0, xh0_1, xh0_2, lh0_3 => t33_2 (G33_2 R0 n) R0 x3 l9 x10 x11 l33 x34 x35 xh0_0 xh0_1 xh0_2 lh0_3
theorem T33_2 {R0 : Int → List (K.ty k45) → Int → Int → Int → Int → Int → List (K.ty k45) → Prop} (Q : Ex → St → Prop) (hr0 : ∀ x3 l9 x10 x11 xh0_0 xh0_1 xh0_2 lh0_3, R0 x3 l9 x10 x11 xh0_0 xh0_1 xh0_2 lh0_3 → Of (Q (Ex.exit (nat_lit 2)) (X33_2_0 x3 l9 x10 x11 xh0_0 xh0_1 xh0_2 lh0_3))) : ∀ (n : Nat) (x3 : Int) (l9 : List (K.ty k45)) (x10 : Int) (x11 : Int) (l33 : List (K.ty k74)) (x34 : Int) (x35 : Int) (xh0_0 : Int) (xh0_1 : Int) (xh0_2 : Int) (lh0_3 : List (K.ty k45)), G33_2 R0 n x3 l9 x10 x11 l33 x34 x35 xh0_0 xh0_1 xh0_2 lh0_3 → Of (loopP (awp tt E33 A33 L33_2 2) ([(1 : Nat), (3 : Nat), (9 : Nat), (10 : Nat), (11 : Nat), (33 : Nat), (34 : Nat), (35 : Nat)], [(1 : Nat), (3 : Nat), (9 : Nat), (10 : Nat), (11 : Nat)], [(2 : Nat)]) n (S33_2 x3 l9 x10 x11 l33 x34 x35 xh0_0 xh0_1 xh0_2 lh0_3) Q) := by
  intro n
  induction n with
  | zero => intro x3 l9 x10 x11 l33 x34 x35 xh0_0 xh0_1 xh0_2 lh0_3 h; exact h.elim
  | succ n ih =>
    intro x3 l9 x10 x11 l33 x34 x35 xh0_0 xh0_1 xh0_2 lh0_3 h
    exact kcO (t33_2_eq n Q x3 l9 x10 x11 l33 x34 x35 xh0_0 xh0_1 xh0_2 lh0_3) (t33_2_mono (fun _ _ _ _ _ _ _ _ _ _ _ h => (ih _ _ _ _ _ _ _ _ _ _ _ h).out) (fun _ _ _ _ _ _ _ _ h => (hr0 _ _ _ _ _ _ _ _ h).out) x3 l9 x10 x11 l33 x34 x35 xh0_0 xh0_1 xh0_2 lh0_3 h)
def t33_0 (again : Int → List (K.ty k45) → Int → Int → Int → Int → Int → List (K.ty k45) → Prop) (R0 : Int → Int → Int → Int → List (K.ty k45) → Prop) (lp0 : Int → List (K.ty k45) → Int → Int → Int → Int → Int → List (K.ty k45) → Prop) (x3 : Int) (l9 : List (K.ty k45)) (x10 : Int) (x11 : Int) (xh0_0 : Int) (xh0_1 : Int) (xh0_2 : Int) (lh0_3 : List (K.ty k45)) : Prop :=
  brP (decide (x11 < x10)) (bound x11 (List.length l9) ∧ lp0 x3 l9 x10 x11 xh0_0 xh0_1 xh0_2 lh0_3) (R0 x3 xh0_0 xh0_1 xh0_2 lh0_3)
theorem t33_0_mono {again : Int → List (K.ty k45) → Int → Int → Int → Int → Int → List (K.ty k45) → Prop} {R0 : Int → Int → Int → Int → List (K.ty k45) → Prop} {again' : Int → List (K.ty k45) → Int → Int → Int → Int → Int → List (K.ty k45) → Prop} {R0' : Int → Int → Int → Int → List (K.ty k45) → Prop} {lp0 : Int → List (K.ty k45) → Int → Int → Int → Int → Int → List (K.ty k45) → Prop} {lp0' : Int → List (K.ty k45) → Int → Int → Int → Int → Int → List (K.ty k45) → Prop} (ha : ∀ x3 l9 x10 x11 xh0_0 xh0_1 xh0_2 lh0_3, again x3 l9 x10 x11 xh0_0 xh0_1 xh0_2 lh0_3 → again' x3 l9 x10 x11 xh0_0 xh0_1 xh0_2 lh0_3) (hr0 : ∀ x3 xh0_0 xh0_1 xh0_2 lh0_3, R0 x3 xh0_0 xh0_1 xh0_2 lh0_3 → R0' x3 xh0_0 xh0_1 xh0_2 lh0_3) (hlp0 : ∀ x3 l9 x10 x11 xh0_0 xh0_1 xh0_2 lh0_3, lp0 x3 l9 x10 x11 xh0_0 xh0_1 xh0_2 lh0_3 → lp0' x3 l9 x10 x11 xh0_0 xh0_1 xh0_2 lh0_3) (x3 : Int) (l9 : List (K.ty k45)) (x10 : Int) (x11 : Int) (xh0_0 : Int) (xh0_1 : Int) (xh0_2 : Int) (lh0_3 : List (K.ty k45)) :
    t33_0 again R0 lp0 x3 l9 x10 x11 xh0_0 xh0_1 xh0_2 lh0_3 → t33_0 again' R0' lp0' x3 l9 x10 x11 xh0_0 xh0_1 xh0_2 lh0_3 :=
  brM (andM (id) (hlp0 _ _ _ _ _ _ _ _)) (hr0 _ _ _ _ _)
theorem t33_0_eq (n : Nat) (Q : Ex → St → Prop) (x3 : Int) (l9 : List (K.ty k45)) (x10 : Int) (x11 : Int) (xh0_0 : Int) (xh0_1 : Int) (xh0_2 : Int) (lh0_3 : List (K.ty k45)) :
    t33_0 (fun x3 l9 x10 x11 xh0_0 xh0_1 xh0_2 lh0_3 => loopP (awp tt E33 A33 L33_0 0) ([(1 : Nat), (3 : Nat), (9 : Nat), (10 : Nat), (11 : Nat)], [(1 : Nat), (3 : Nat)], [(2 : Nat)]) n (S33_0 x3 l9 x10 x11 xh0_0 xh0_1 xh0_2 lh0_3) Q) (fun x3 xh0_0 xh0_1 xh0_2 lh0_3 => Q (Ex.exit (nat_lit 0)) (X33_0_0 x3 xh0_0 xh0_1 xh0_2 lh0_3)) (fun x3 l9 x10 x11 xh0_0 xh0_1 xh0_2 lh0_3 => ∃ m, loopP (awp tt E33 A33 L33_2 2) ([(1 : Nat), (3 : Nat), (9 : Nat), (10 : Nat), (11 : Nat), (33 : Nat), (34 : Nat), (35 : Nat)], [(1 : Nat), (3 : Nat), (9 : Nat), (10 : Nat), (11 : Nat)], [(2 : Nat)]) m (S33_2 (IntKind.wrap IntKind.i64 (x3 + IntKind.wrap IntKind.i64 (IntKind.wrap IntKind.i64 (IntKind.wrap IntKind.i64 ((↑(List.length (getE k45 l9 x11).snd.fst) : Int) + (↑(List.length (getE k45 l9 x11).snd.snd.fst) : Int)) + (↑(ByteArray.size (getE k45 l9 x11).fst) : Int)) + (↑(ByteArray.size (getE k45 l9 x11).snd.snd.snd) : Int)))) (l9) (x10) (x11) ((getE k45 l9 x11).snd.fst) ((↑(List.length (getE k45 l9 x11).snd.fst) : Int)) ((0 : Int)) (xh0_0) (xh0_1) (xh0_2) (lh0_3)) (blkC (2 : Nat) (blkC (1 : Nat) (seqC (awp tt E33 A33 (Code.b (Code.b (Code.b (Code.a (Code.a (Code.b (Code.a (Code.b (Code.b (Func.code Try.f33)))))))))) (0 : Nat)) (loopC (awp tt E33 A33 (Code.a (Code.a (Code.b (Code.a (Code.b (Code.b (Func.code Try.f33))))))) (0 : Nat)) ([(1 : Nat), (3 : Nat), (9 : Nat), (10 : Nat), (11 : Nat)], [(1 : Nat), (3 : Nat)], [(2 : Nat)]) n Q))))) x3 l9 x10 x11 xh0_0 xh0_1 xh0_2 lh0_3 = (loopP (awp tt E33 A33 L33_0 0) ([(1 : Nat), (3 : Nat), (9 : Nat), (10 : Nat), (11 : Nat)], [(1 : Nat), (3 : Nat)], [(2 : Nat)]) (n + 1) (S33_0 x3 l9 x10 x11 xh0_0 xh0_1 xh0_2 lh0_3) Q) := by kernel_rfl
def t33_0c0x0 (again : Int → List (K.ty k45) → Int → Int → Int → Int → Int → List (K.ty k45) → Prop) (R0 : Int → Int → Int → Int → List (K.ty k45) → Prop) (x3 : Int) (l9 : List (K.ty k45)) (x10 : Int) (x11 : Int) (xh0_0 : Int) (xh0_1 : Int) (xh0_2 : Int) (lh0_3 : List (K.ty k45)) (x3e8 : Int) (l9e8 : List (K.ty k45)) (x10e8 : Int) (x11e8 : Int) (xh0_0e8 : Int) (xh0_1e8 : Int) (xh0_2e8 : Int) (lh0_3e8 : List (K.ty k45)) : Prop :=
  again x3e8 l9e8 x10e8 (IntKind.wrap IntKind.i64 (x11e8 + (1 : Int))) xh0_0e8 xh0_1e8 xh0_2e8 lh0_3e8
theorem t33_0c0x0_mono {again : Int → List (K.ty k45) → Int → Int → Int → Int → Int → List (K.ty k45) → Prop} {R0 : Int → Int → Int → Int → List (K.ty k45) → Prop} {again' : Int → List (K.ty k45) → Int → Int → Int → Int → Int → List (K.ty k45) → Prop} {R0' : Int → Int → Int → Int → List (K.ty k45) → Prop} (ha : ∀ x3 l9 x10 x11 xh0_0 xh0_1 xh0_2 lh0_3, again x3 l9 x10 x11 xh0_0 xh0_1 xh0_2 lh0_3 → again' x3 l9 x10 x11 xh0_0 xh0_1 xh0_2 lh0_3) (hr0 : ∀ x3 xh0_0 xh0_1 xh0_2 lh0_3, R0 x3 xh0_0 xh0_1 xh0_2 lh0_3 → R0' x3 xh0_0 xh0_1 xh0_2 lh0_3) (x3 : Int) (l9 : List (K.ty k45)) (x10 : Int) (x11 : Int) (xh0_0 : Int) (xh0_1 : Int) (xh0_2 : Int) (lh0_3 : List (K.ty k45)) (x3e8 : Int) (l9e8 : List (K.ty k45)) (x10e8 : Int) (x11e8 : Int) (xh0_0e8 : Int) (xh0_1e8 : Int) (xh0_2e8 : Int) (lh0_3e8 : List (K.ty k45)) :
    t33_0c0x0 again R0 x3 l9 x10 x11 xh0_0 xh0_1 xh0_2 lh0_3 x3e8 l9e8 x10e8 x11e8 xh0_0e8 xh0_1e8 xh0_2e8 lh0_3e8 → t33_0c0x0 again' R0' x3 l9 x10 x11 xh0_0 xh0_1 xh0_2 lh0_3 x3e8 l9e8 x10e8 x11e8 xh0_0e8 xh0_1e8 xh0_2e8 lh0_3e8 :=
  ha _ _ _ _ _ _ _ _
theorem t33_0c0x0_eq (n : Nat) (Q : Ex → St → Prop) (x3 : Int) (l9 : List (K.ty k45)) (x10 : Int) (x11 : Int) (xh0_0 : Int) (xh0_1 : Int) (xh0_2 : Int) (lh0_3 : List (K.ty k45)) (x3e8 : Int) (l9e8 : List (K.ty k45)) (x10e8 : Int) (x11e8 : Int) (xh0_0e8 : Int) (xh0_1e8 : Int) (xh0_2e8 : Int) (lh0_3e8 : List (K.ty k45)) :
    t33_0c0x0 (fun x3 l9 x10 x11 xh0_0 xh0_1 xh0_2 lh0_3 => loopP (awp tt E33 A33 L33_0 0) ([(1 : Nat), (3 : Nat), (9 : Nat), (10 : Nat), (11 : Nat)], [(1 : Nat), (3 : Nat)], [(2 : Nat)]) n (S33_0 x3 l9 x10 x11 xh0_0 xh0_1 xh0_2 lh0_3) Q) (fun x3 xh0_0 xh0_1 xh0_2 lh0_3 => Q (Ex.exit (nat_lit 0)) (X33_0_0 x3 xh0_0 xh0_1 xh0_2 lh0_3)) x3 l9 x10 x11 xh0_0 xh0_1 xh0_2 lh0_3 x3e8 l9e8 x10e8 x11e8 xh0_0e8 xh0_1e8 xh0_2e8 lh0_3e8 = ((blkC (2 : Nat) (blkC (1 : Nat) (seqC (awp tt E33 A33 (Code.b (Code.b (Code.b (Code.a (Code.a (Code.b (Code.a (Code.b (Code.b (Func.code Try.f33)))))))))) (0 : Nat)) (loopC (awp tt E33 A33 (Code.a (Code.a (Code.b (Code.a (Code.b (Code.b (Func.code Try.f33))))))) (0 : Nat)) ([(1 : Nat), (3 : Nat), (9 : Nat), (10 : Nat), (11 : Nat)], [(1 : Nat), (3 : Nat)], [(2 : Nat)]) n Q)))) (Ex.exit (nat_lit 2)) (X33_2_0 x3e8 l9e8 x10e8 x11e8 xh0_0e8 xh0_1e8 xh0_2e8 lh0_3e8)) := by kernel_rfl
def G33_0 (R0 : Int → Int → Int → Int → List (K.ty k45) → Prop) : Nat → Int → List (K.ty k45) → Int → Int → Int → Int → Int → List (K.ty k45) → Prop
  | 0, _, _, _, _, _, _, _, _ => False
  | n + 1, x3, l9, x10, x11, xh0_0, xh0_1, xh0_2, lh0_3 => t33_0 (G33_0 R0 n) R0 (fun x3 l9 x10 x11 xh0_0 xh0_1 xh0_2 lh0_3 => ∃ m, G33_2 (fun x3e8 l9e8 x10e8 x11e8 xh0_0e8 xh0_1e8 xh0_2e8 lh0_3e8 => t33_0c0x0 (G33_0 R0 n) R0 x3 l9 x10 x11 xh0_0 xh0_1 xh0_2 lh0_3 x3e8 l9e8 x10e8 x11e8 xh0_0e8 xh0_1e8 xh0_2e8 lh0_3e8) m (IntKind.wrap IntKind.i64 (x3 + IntKind.wrap IntKind.i64 (IntKind.wrap IntKind.i64 (IntKind.wrap IntKind.i64 ((↑(List.length (getE k45 l9 x11).snd.fst) : Int) + (↑(List.length (getE k45 l9 x11).snd.snd.fst) : Int)) + (↑(ByteArray.size (getE k45 l9 x11).fst) : Int)) + (↑(ByteArray.size (getE k45 l9 x11).snd.snd.snd) : Int)))) (l9) (x10) (x11) ((getE k45 l9 x11).snd.fst) ((↑(List.length (getE k45 l9 x11).snd.fst) : Int)) ((0 : Int)) (xh0_0) (xh0_1) (xh0_2) (lh0_3)) x3 l9 x10 x11 xh0_0 xh0_1 xh0_2 lh0_3
theorem T33_0 {R0 : Int → Int → Int → Int → List (K.ty k45) → Prop} (Q : Ex → St → Prop) (hr0 : ∀ x3 xh0_0 xh0_1 xh0_2 lh0_3, R0 x3 xh0_0 xh0_1 xh0_2 lh0_3 → Of (Q (Ex.exit (nat_lit 0)) (X33_0_0 x3 xh0_0 xh0_1 xh0_2 lh0_3))) : ∀ (n : Nat) (x3 : Int) (l9 : List (K.ty k45)) (x10 : Int) (x11 : Int) (xh0_0 : Int) (xh0_1 : Int) (xh0_2 : Int) (lh0_3 : List (K.ty k45)), G33_0 R0 n x3 l9 x10 x11 xh0_0 xh0_1 xh0_2 lh0_3 → Of (loopP (awp tt E33 A33 L33_0 0) ([(1 : Nat), (3 : Nat), (9 : Nat), (10 : Nat), (11 : Nat)], [(1 : Nat), (3 : Nat)], [(2 : Nat)]) n (S33_0 x3 l9 x10 x11 xh0_0 xh0_1 xh0_2 lh0_3) Q) := by
  intro n
  induction n with
  | zero => intro x3 l9 x10 x11 xh0_0 xh0_1 xh0_2 lh0_3 h; exact h.elim
  | succ n ih =>
    intro x3 l9 x10 x11 xh0_0 xh0_1 xh0_2 lh0_3 h
    exact kcO (t33_0_eq n Q x3 l9 x10 x11 xh0_0 xh0_1 xh0_2 lh0_3) (t33_0_mono (fun _ _ _ _ _ _ _ _ h => (ih _ _ _ _ _ _ _ _ h).out) (fun _ _ _ _ _ h => (hr0 _ _ _ _ _ h).out) (fun x3 l9 x10 x11 xh0_0 xh0_1 xh0_2 lh0_3 ⟨m, h⟩ => ⟨m, (T33_2 _ (fun x3e8 l9e8 x10e8 x11e8 xh0_0e8 xh0_1e8 xh0_2e8 lh0_3e8 h => kcO (t33_0c0x0_eq _ _ _ _ _ _ _ _ _ _ _ _ _ _ _ _ _ _) (t33_0c0x0_mono (fun _ _ _ _ _ _ _ _ h => (ih _ _ _ _ _ _ _ _ h).out) (fun _ _ _ _ _ h => (hr0 _ _ _ _ _ h).out) _ _ _ _ _ _ _ _ _ _ _ _ _ _ _ _ h)) m _ _ _ _ _ _ _ _ _ _ _ h).out⟩) x3 l9 x10 x11 xh0_0 xh0_1 xh0_2 lh0_3 h)
def t33 (Q : List V1 → List Ob → Prop) (lp0 : K.ty k23 → Prop) (p0 : K.ty k23) : Prop :=
  lp0 p0
theorem t33_mono {Q : List V1 → List Ob → Prop} {Q' : List V1 → List Ob → Prop} {lp0 : K.ty k23 → Prop} {lp0' : K.ty k23 → Prop} (hq : ∀ r h, Q r h → Q' r h) (hlp0 : ∀ p0, lp0 p0 → lp0' p0) (p0 : K.ty k23) :
    t33 Q lp0 p0 → t33 Q' lp0' p0 :=
  hlp0 _
theorem t33_eq (Q : List V1 → List Ob → Prop) (p0 : K.ty k23) :
    t33 Q (fun p0 => ∃ m, loopP (awp tt E33 A33 L33_0 0) ([(1 : Nat), (3 : Nat), (9 : Nat), (10 : Nat), (11 : Nat)], [(1 : Nat), (3 : Nat)], [(2 : Nat)]) m (S33_0 ((0 : Int)) (p0.snd.snd.snd) ((↑(List.length p0.snd.snd.snd) : Int)) ((0 : Int)) (p0.fst) (p0.snd.fst) (p0.snd.snd.fst) (p0.snd.snd.snd)) (blkC (0 : Nat) (seqC (awp tt E33 A33 (Code.b (Code.b (Code.b (Func.code Try.f33)))) (0 : Nat)) (topC tt Try.f33 0 Q)))) p0 = (afun tt E33 A33 Try.f33 (I33 p0) [] Q) := by kernel_rfl
def t33c0x0 (Q : List V1 → List Ob → Prop) (p0 : K.ty k23) (x3e1 : Int) (xh0_0e1 : Int) (xh0_1e1 : Int) (xh0_2e1 : Int) (lh0_3e1 : List (K.ty k45)) : Prop :=
  brP (decide ((↑(List.length lh0_3e1) : Int) > (70 : Int))) (Q [V1.one (Lf.int IntKind.i64 (1 : Int))] []) (brP (decide (x3e1 > (20000 : Int))) (Q [V1.one (Lf.int IntKind.i64 (1 : Int))] []) (Q [V1.one (Lf.int IntKind.i64 (0 : Int))] []))
theorem t33c0x0_mono {Q : List V1 → List Ob → Prop} {Q' : List V1 → List Ob → Prop} (hq : ∀ r h, Q r h → Q' r h) (p0 : K.ty k23) (x3e1 : Int) (xh0_0e1 : Int) (xh0_1e1 : Int) (xh0_2e1 : Int) (lh0_3e1 : List (K.ty k45)) :
    t33c0x0 Q p0 x3e1 xh0_0e1 xh0_1e1 xh0_2e1 lh0_3e1 → t33c0x0 Q' p0 x3e1 xh0_0e1 xh0_1e1 xh0_2e1 lh0_3e1 :=
  brM (hq _ _) (brM (hq _ _) (hq _ _))
theorem t33c0x0_eq (Q : List V1 → List Ob → Prop) (p0 : K.ty k23) (x3e1 : Int) (xh0_0e1 : Int) (xh0_1e1 : Int) (xh0_2e1 : Int) (lh0_3e1 : List (K.ty k45)) :
    t33c0x0 Q p0 x3e1 xh0_0e1 xh0_1e1 xh0_2e1 lh0_3e1 = ((blkC (0 : Nat) (seqC (awp tt E33 A33 (Code.b (Code.b (Code.b (Func.code Try.f33)))) (0 : Nat)) (topC tt Try.f33 0 Q))) (Ex.exit (nat_lit 0)) (X33_0_0 x3e1 xh0_0e1 xh0_1e1 xh0_2e1 lh0_3e1)) := by kernel_rfl
def H33 (Q : List V1 → List Ob → Prop) (p0 : K.ty k23) : Prop := t33 Q (fun p0 => ∃ m, G33_0 (fun x3e1 xh0_0e1 xh0_1e1 xh0_2e1 lh0_3e1 => t33c0x0 Q p0 x3e1 xh0_0e1 xh0_1e1 xh0_2e1 lh0_3e1) m ((0 : Int)) (p0.snd.snd.snd) ((↑(List.length p0.snd.snd.snd) : Int)) ((0 : Int)) (p0.fst) (p0.snd.fst) (p0.snd.snd.fst) (p0.snd.snd.snd)) p0
theorem ok33 (Q : List V1 → List Ob → Prop) (p0 : K.ty k23) (h : H33 Q p0) : Of (afun tt E33 A33 Try.f33 (I33 p0) [] Q) :=
  kcO (t33_eq Q p0) (t33_mono (fun _ _ h => h) (fun p0 ⟨m, h⟩ => ⟨m, (T33_0 _ (fun x3e1 xh0_0e1 xh0_1e1 xh0_2e1 lh0_3e1 h => kcO (t33c0x0_eq _ _ _ _ _ _ _) (t33c0x0_mono (fun _ _ h => h) _ _ _ _ _ _ h)) m _ _ _ _ _ _ _ _ h).out⟩) p0 h)
theorem env33 : EnvOk Try.prog E33 := .nil
theorem getE_mem45' {l : List Rung} {i : Nat} (h : i < l.length) : getE k45 l i ∈ l := by
  have : getE k45 l i = l[i] := by simp [getE, List.getD, h]
  rw [this]; exact List.getElem_mem h
theorem loop33b (rs : List Rung) (x10 x11 a b c : Int) (lh : List Rung) (cs : List Con) (R0 : Int → List Rung → Int → Int → Int → Int → Int → List Rung → Prop) (hl : cs.length ≤ 4611686018427387904) (h : ∀ x3, R0 x3 rs x10 x11 a b c lh) :
    ∀ n (i : Nat) (x3 : Int), cs.length - i < n → i ≤ cs.length → G33_2 R0 n x3 rs x10 x11 cs cs.length i a b c lh := by
  intro n
  induction n with
  | zero => intro i x3 h; omega
  | succ n ih =>
    intro i x3 hn hi
    refine brP_intro (fun d => ?_) (fun d => h _)
    have d : i < cs.length := by simpa using d
    refine ⟨⟨by omega, by omega⟩, ?_⟩
    rw [wrap_in (x := (i : Int) + 1) (by omega) (by omega)]
    exact ih (i + 1) _ (by omega) (by omega)
theorem loop33a (rs : List Rung) (a b c : Int) (R0 : Int → Int → Int → Int → List Rung → Prop) (hl : rs.length ≤ 4611686018427387904) (hc : ∀ r ∈ rs, (Rung.contacts r).length ≤ 4611686018427387904) (h : ∀ x3, R0 x3 a b c rs) :
    ∀ n (i : Nat) (x3 : Int), rs.length - i < n → i ≤ rs.length → G33_0 R0 n x3 rs rs.length i a b c rs := by
  intro n
  induction n with
  | zero => intro i x3 h; omega
  | succ n ih =>
    intro i x3 hn hi
    refine brP_intro (fun d => ?_) (fun d => h _)
    have d : i < rs.length := by simpa using d
    refine ⟨⟨by omega, by omega⟩, (Rung.contacts (getE k45 rs i)).length + 1, ?_⟩
    refine loop33b rs _ _ _ _ _ _ (Rung.contacts (getE k45 rs i)) _ (hc _ (getE_mem45' d)) (fun x => ?_) _ 0 _ (by omega) (by omega)
    show G33_0 R0 n x rs rs.length (IntKind.i64.wrap ((i : Int) + 1)) a b c rs
    rw [wrap_in (by omega) (by omega)]
    exact ih (i + 1) x (by omega) (by omega)
theorem spec33 : SpecOk Try.prog 33 sp33 := S1.ok tt_ok mixed env33 Try.func33 fun (l : Lad) Q h => ok33 Q l <| by
  obtain ⟨⟨h1, h2⟩, h⟩ := h
  refine ⟨(Lad.rungs l).length + 1, loop33a (Lad.rungs l) l.1 l.2.1 l.2.2.1 _ h1 h2 (fun x => ?_) _ 0 0 (by omega) (by omega)⟩
  refine brP_intro (fun d => h 1 (.inr rfl) (fun e => by cases e)) (fun d => ?_)
  refine brP_intro (fun e => h 1 (.inr rfl) (fun e => by cases e)) (fun e => h 0 (.inl rfl) fun _ => ?_)
  have d2 : ¬ ((Lad.rungs l).length : Int) > 70 := by simpa using d
  show (Lad.rungs l).length ≤ 70
  omega
end Go.AM
namespace Go.AM
open Go.Proofs
-- f21 "busbar/busbarlaw17.TooLarge" ['24'] -> ['3']
def A21 : Ann := [(0, [1, 3, 7, 8, 9], [1, 3], [2])]
def E21 : Env := [(33, sp33)]
def I21 (p0 : (k23 : K).ty) : List V1 := [nfK k23 p0]
noncomputable def L21_0 : Code := Code.a (Code.a (Code.b (Code.a (Code.b (Code.b (Func.code Try.f21))))))
def S21_0 (x3 : Int) (l7 : List (K.ty k45)) (x8 : Int) (x9 : Int) (xh0_0 : Int) (xh0_1 : Int) (xh0_2 : Int) (lh0_3 : List (K.ty k45)) : St := sp (27 : Nat) [((1 : Nat), V.v (V1.one (Lf.ptr (nat_lit 0) (nat_lit 0)))), ((3 : Nat), V.v (V1.one (Lf.int IntKind.i64 x3))), ((7 : Nat), V.v (V1.one (Lf.sl (46 : TypeId) k45 l7))), ((8 : Nat), V.v (V1.one (Lf.int IntKind.i64 x8))), ((9 : Nat), V.v (V1.one (Lf.int IntKind.i64 x9)))] [Ob.box (24 : Nat) [Lf.int IntKind.i64 xh0_0, Lf.int IntKind.i64 xh0_1, Lf.int IntKind.i64 xh0_2, Lf.sl (46 : TypeId) k45 lh0_3]]
def X21_0_0 (x2 : Int) : St := sp (27 : Nat) [((2 : Nat), V.v (V1.one (Lf.int IntKind.i64 x2)))] []
def X21_0_1 (x3 : Int) (xh0_0 : Int) (xh0_1 : Int) (xh0_2 : Int) (lh0_3 : List (K.ty k45)) : St := sp (27 : Nat) [((1 : Nat), V.v (V1.one (Lf.ptr (nat_lit 0) (nat_lit 0)))), ((3 : Nat), V.v (V1.one (Lf.int IntKind.i64 x3)))] [Ob.box (24 : Nat) [Lf.int IntKind.i64 xh0_0, Lf.int IntKind.i64 xh0_1, Lf.int IntKind.i64 xh0_2, Lf.sl (46 : TypeId) k45 lh0_3]]
def t21_0 (again : Int → List (K.ty k45) → Int → Int → Int → Int → Int → List (K.ty k45) → Prop) (R0 : Int → Prop) (R1 : Int → Int → Int → Int → List (K.ty k45) → Prop) (x3 : Int) (l7 : List (K.ty k45)) (x8 : Int) (x9 : Int) (xh0_0 : Int) (xh0_1 : Int) (xh0_2 : Int) (lh0_3 : List (K.ty k45)) : Prop :=
  brP (decide (x9 < x8)) (bound x9 (List.length l7) ∧ brP (decide ((↑(List.length (getE k45 l7 x9).snd.fst) : Int) > (40 : Int))) (R0 (1 : Int)) (again (IntKind.wrap IntKind.i64 (x3 + (↑(List.length (getE k45 l7 x9).snd.fst) : Int))) l7 x8 (IntKind.wrap IntKind.i64 (x9 + (1 : Int))) xh0_0 xh0_1 xh0_2 lh0_3)) (R1 x3 xh0_0 xh0_1 xh0_2 lh0_3)
theorem t21_0_mono {again : Int → List (K.ty k45) → Int → Int → Int → Int → Int → List (K.ty k45) → Prop} {R0 : Int → Prop} {R1 : Int → Int → Int → Int → List (K.ty k45) → Prop} {again' : Int → List (K.ty k45) → Int → Int → Int → Int → Int → List (K.ty k45) → Prop} {R0' : Int → Prop} {R1' : Int → Int → Int → Int → List (K.ty k45) → Prop} (ha : ∀ x3 l7 x8 x9 xh0_0 xh0_1 xh0_2 lh0_3, again x3 l7 x8 x9 xh0_0 xh0_1 xh0_2 lh0_3 → again' x3 l7 x8 x9 xh0_0 xh0_1 xh0_2 lh0_3) (hr0 : ∀ x2, R0 x2 → R0' x2) (hr1 : ∀ x3 xh0_0 xh0_1 xh0_2 lh0_3, R1 x3 xh0_0 xh0_1 xh0_2 lh0_3 → R1' x3 xh0_0 xh0_1 xh0_2 lh0_3) (x3 : Int) (l7 : List (K.ty k45)) (x8 : Int) (x9 : Int) (xh0_0 : Int) (xh0_1 : Int) (xh0_2 : Int) (lh0_3 : List (K.ty k45)) :
    t21_0 again R0 R1 x3 l7 x8 x9 xh0_0 xh0_1 xh0_2 lh0_3 → t21_0 again' R0' R1' x3 l7 x8 x9 xh0_0 xh0_1 xh0_2 lh0_3 :=
  brM (andM (id) (brM (hr0 _) (ha _ _ _ _ _ _ _ _))) (hr1 _ _ _ _ _)
theorem t21_0_eq (n : Nat) (Q : Ex → St → Prop) (x3 : Int) (l7 : List (K.ty k45)) (x8 : Int) (x9 : Int) (xh0_0 : Int) (xh0_1 : Int) (xh0_2 : Int) (lh0_3 : List (K.ty k45)) :
    t21_0 (fun x3 l7 x8 x9 xh0_0 xh0_1 xh0_2 lh0_3 => loopP (awp tt E21 A21 L21_0 0) ([(1 : Nat), (3 : Nat), (7 : Nat), (8 : Nat), (9 : Nat)], [(1 : Nat), (3 : Nat)], [(2 : Nat)]) n (S21_0 x3 l7 x8 x9 xh0_0 xh0_1 xh0_2 lh0_3) Q) (fun x2 => Q (Ex.ret) (X21_0_0 x2)) (fun x3 xh0_0 xh0_1 xh0_2 lh0_3 => Q (Ex.exit (nat_lit 0)) (X21_0_1 x3 xh0_0 xh0_1 xh0_2 lh0_3)) x3 l7 x8 x9 xh0_0 xh0_1 xh0_2 lh0_3 = (loopP (awp tt E21 A21 L21_0 0) ([(1 : Nat), (3 : Nat), (7 : Nat), (8 : Nat), (9 : Nat)], [(1 : Nat), (3 : Nat)], [(2 : Nat)]) (n + 1) (S21_0 x3 l7 x8 x9 xh0_0 xh0_1 xh0_2 lh0_3) Q) := by kernel_rfl
def G21_0 (R0 : Int → Prop) (R1 : Int → Int → Int → Int → List (K.ty k45) → Prop) : Nat → Int → List (K.ty k45) → Int → Int → Int → Int → Int → List (K.ty k45) → Prop
  | 0, _, _, _, _, _, _, _, _ => False
  | n + 1, x3, l7, x8, x9, xh0_0, xh0_1, xh0_2, lh0_3 => t21_0 (G21_0 R0 R1 n) R0 R1 x3 l7 x8 x9 xh0_0 xh0_1 xh0_2 lh0_3
theorem T21_0 {R0 : Int → Prop} {R1 : Int → Int → Int → Int → List (K.ty k45) → Prop} (Q : Ex → St → Prop) (hr0 : ∀ x2, R0 x2 → Of (Q (Ex.ret) (X21_0_0 x2))) (hr1 : ∀ x3 xh0_0 xh0_1 xh0_2 lh0_3, R1 x3 xh0_0 xh0_1 xh0_2 lh0_3 → Of (Q (Ex.exit (nat_lit 0)) (X21_0_1 x3 xh0_0 xh0_1 xh0_2 lh0_3))) : ∀ (n : Nat) (x3 : Int) (l7 : List (K.ty k45)) (x8 : Int) (x9 : Int) (xh0_0 : Int) (xh0_1 : Int) (xh0_2 : Int) (lh0_3 : List (K.ty k45)), G21_0 R0 R1 n x3 l7 x8 x9 xh0_0 xh0_1 xh0_2 lh0_3 → Of (loopP (awp tt E21 A21 L21_0 0) ([(1 : Nat), (3 : Nat), (7 : Nat), (8 : Nat), (9 : Nat)], [(1 : Nat), (3 : Nat)], [(2 : Nat)]) n (S21_0 x3 l7 x8 x9 xh0_0 xh0_1 xh0_2 lh0_3) Q) := by
  intro n
  induction n with
  | zero => intro x3 l7 x8 x9 xh0_0 xh0_1 xh0_2 lh0_3 h; exact h.elim
  | succ n ih =>
    intro x3 l7 x8 x9 xh0_0 xh0_1 xh0_2 lh0_3 h
    exact kcO (t21_0_eq n Q x3 l7 x8 x9 xh0_0 xh0_1 xh0_2 lh0_3) (t21_0_mono (fun _ _ _ _ _ _ _ _ h => (ih _ _ _ _ _ _ _ _ h).out) (fun _ h => (hr0 _ h).out) (fun _ _ _ _ _ h => (hr1 _ _ _ _ _ h).out) x3 l7 x8 x9 xh0_0 xh0_1 xh0_2 lh0_3 h)
def t21 (Q : List V1 → List Ob → Prop) (lp0 : K.ty k23 → Prop) (p0 : K.ty k23) : Prop :=
  lp0 p0
theorem t21_mono {Q : List V1 → List Ob → Prop} {Q' : List V1 → List Ob → Prop} {lp0 : K.ty k23 → Prop} {lp0' : K.ty k23 → Prop} (hq : ∀ r h, Q r h → Q' r h) (hlp0 : ∀ p0, lp0 p0 → lp0' p0) (p0 : K.ty k23) :
    t21 Q lp0 p0 → t21 Q' lp0' p0 :=
  hlp0 _
theorem t21_eq (Q : List V1 → List Ob → Prop) (p0 : K.ty k23) :
    t21 Q (fun p0 => ∃ m, loopP (awp tt E21 A21 L21_0 0) ([(1 : Nat), (3 : Nat), (7 : Nat), (8 : Nat), (9 : Nat)], [(1 : Nat), (3 : Nat)], [(2 : Nat)]) m (S21_0 ((0 : Int)) (p0.snd.snd.snd) ((↑(List.length p0.snd.snd.snd) : Int)) ((0 : Int)) (p0.fst) (p0.snd.fst) (p0.snd.snd.fst) (p0.snd.snd.snd)) (blkC (0 : Nat) (seqC (awp tt E21 A21 (Code.b (Code.b (Code.b (Func.code Try.f21)))) (0 : Nat)) (topC tt Try.f21 0 Q)))) p0 = (afun tt E21 A21 Try.f21 (I21 p0) [] Q) := by kernel_rfl
def t21c0x1 (Q : List V1 → List Ob → Prop) (p0 : K.ty k23) (x3e1 : Int) (xh0_0e1 : Int) (xh0_1e1 : Int) (xh0_2e1 : Int) (lh0_3e1 : List (K.ty k45)) : Prop :=
  brP (decide (x3e1 > (200 : Int))) (Q [V1.one (Lf.int IntKind.i64 (1 : Int))] []) (wideL (xh0_0e1, xh0_1e1, xh0_2e1, lh0_3e1) ∧ ∀ (v6 : Int), isBit v6 → (v6 = (0 : Int) → List.length (Lad.rungs (xh0_0e1, xh0_1e1, xh0_2e1, lh0_3e1)) ≤ (70 : Nat)) → Q [V1.one (Lf.int IntKind.i64 v6)] [])
theorem t21c0x1_mono {Q : List V1 → List Ob → Prop} {Q' : List V1 → List Ob → Prop} (hq : ∀ r h, Q r h → Q' r h) (p0 : K.ty k23) (x3e1 : Int) (xh0_0e1 : Int) (xh0_1e1 : Int) (xh0_2e1 : Int) (lh0_3e1 : List (K.ty k45)) :
    t21c0x1 Q p0 x3e1 xh0_0e1 xh0_1e1 xh0_2e1 lh0_3e1 → t21c0x1 Q' p0 x3e1 xh0_0e1 xh0_1e1 xh0_2e1 lh0_3e1 :=
  brM (hq _ _) (andM (id) (fun hh x => ap (hh x) (fun hh x => ap (hh x) (fun hh x => ap (hh x) (hq _ _)))))
theorem t21c0x1_eq (Q : List V1 → List Ob → Prop) (p0 : K.ty k23) (x3e1 : Int) (xh0_0e1 : Int) (xh0_1e1 : Int) (xh0_2e1 : Int) (lh0_3e1 : List (K.ty k45)) :
    t21c0x1 Q p0 x3e1 xh0_0e1 xh0_1e1 xh0_2e1 lh0_3e1 = ((blkC (0 : Nat) (seqC (awp tt E21 A21 (Code.b (Code.b (Code.b (Func.code Try.f21)))) (0 : Nat)) (topC tt Try.f21 0 Q))) (Ex.exit (nat_lit 0)) (X21_0_1 x3e1 xh0_0e1 xh0_1e1 xh0_2e1 lh0_3e1)) := by kernel_rfl
def t21c0x0 (Q : List V1 → List Ob → Prop) (p0 : K.ty k23) (x2e1 : Int) : Prop :=
  Q [V1.one (Lf.int IntKind.i64 x2e1)] []
theorem t21c0x0_mono {Q : List V1 → List Ob → Prop} {Q' : List V1 → List Ob → Prop} (hq : ∀ r h, Q r h → Q' r h) (p0 : K.ty k23) (x2e1 : Int) :
    t21c0x0 Q p0 x2e1 → t21c0x0 Q' p0 x2e1 :=
  hq _ _
theorem t21c0x0_eq (Q : List V1 → List Ob → Prop) (p0 : K.ty k23) (x2e1 : Int) :
    t21c0x0 Q p0 x2e1 = ((blkC (0 : Nat) (seqC (awp tt E21 A21 (Code.b (Code.b (Code.b (Func.code Try.f21)))) (0 : Nat)) (topC tt Try.f21 0 Q))) (Ex.ret) (X21_0_0 x2e1)) := by kernel_rfl
def H21 (Q : List V1 → List Ob → Prop) (p0 : K.ty k23) : Prop := t21 Q (fun p0 => ∃ m, G21_0 (fun x2e1 => t21c0x0 Q p0 x2e1) (fun x3e1 xh0_0e1 xh0_1e1 xh0_2e1 lh0_3e1 => t21c0x1 Q p0 x3e1 xh0_0e1 xh0_1e1 xh0_2e1 lh0_3e1) m ((0 : Int)) (p0.snd.snd.snd) ((↑(List.length p0.snd.snd.snd) : Int)) ((0 : Int)) (p0.fst) (p0.snd.fst) (p0.snd.snd.fst) (p0.snd.snd.snd)) p0
theorem ok21 (Q : List V1 → List Ob → Prop) (p0 : K.ty k23) (h : H21 Q p0) : Of (afun tt E21 A21 Try.f21 (I21 p0) [] Q) :=
  kcO (t21_eq Q p0) (t21_mono (fun _ _ h => h) (fun p0 ⟨m, h⟩ => ⟨m, (T21_0 _ (fun x2e1 h => kcO (t21c0x0_eq _ _ _) (t21c0x0_mono (fun _ _ h => h) _ _ h)) (fun x3e1 xh0_0e1 xh0_1e1 xh0_2e1 lh0_3e1 h => kcO (t21c0x1_eq _ _ _ _ _ _ _) (t21c0x1_mono (fun _ _ h => h) _ _ _ _ _ _ h)) m _ _ _ _ _ _ _ _ h).out⟩) p0 h)
theorem env21 : EnvOk Try.prog E21 := .cons spec33 (by kernel_rfl) <| .nil
theorem loop21 (rs : List Rung) (a b c : Int) (R0 : Int → Prop) (R1 : Int → Int → Int → Int → List Rung → Prop) (hl : rs.length ≤ 4611686018427387904) (h0 : R0 1) (h : (∀ r ∈ rs, (Rung.contacts r).length ≤ 40) → ∀ x3, R1 x3 a b c rs) :
    ∀ n (i : Nat) (x3 : Int), rs.length - i < n → i ≤ rs.length → (∀ r ∈ rs.take i, (Rung.contacts r).length ≤ 40) → G21_0 R0 R1 n x3 rs rs.length i a b c rs := by
  intro n
  induction n with
  | zero => intro i x3 h; omega
  | succ n ih =>
    intro i x3 hn hi ha
    refine brP_intro (fun d => ?_) (fun d => ?_)
    · have d : i < rs.length := by simpa using d
      refine ⟨⟨by omega, by omega⟩, ?_⟩
      refine brP_intro (fun e => h0) (fun e => ?_)
      have e : ¬ ((Rung.contacts (getE k45 rs i)).length : Int) > 40 := by simpa using e
      rw [wrap_in (x := (i : Int) + 1) (by omega) (by omega)]
      refine ih (i + 1) _ (by omega) (by omega) fun r hr => ?_
      rw [List.take_succ_eq_append_getElem d] at hr
      rcases List.mem_append.1 hr with hr | hr
      · exact ha r hr
      · have hg : getE k45 rs i = rs[i] := by simp [getE, List.getD, d]
        rw [List.mem_singleton] at hr
        rw [hr, ← hg]
        omega
    · have d : ¬ i < rs.length := by simpa using d
      rw [List.take_of_length_le (by omega)] at ha
      exact h ha _
theorem spec21 : SpecOk Try.prog 21 sp21 := S1.ok tt_ok mixed env21 Try.func21 fun (l : Lad) Q h => ok21 Q l <| by
  obtain ⟨⟨h1, h2⟩, h⟩ := h
  refine ⟨(Lad.rungs l).length + 1, loop21 (Lad.rungs l) l.1 l.2.1 l.2.2.1 _ _ h1 (h 1 (.inr rfl) (fun e => by cases e)) (fun ha x => ?_) _ 0 0 (by omega) (by omega) (by simp)⟩
  refine brP_intro (fun d => h 1 (.inr rfl) (fun e => by cases e)) (fun d => ⟨⟨h1, h2⟩, fun v hv h70 => ?_⟩)
  exact h v hv fun e => ⟨h70 e, ha⟩
end Go.AM
namespace Go.AM
open Go.Proofs
-- f8 "busbar/busbarlaw20.TooLarge" ['24', '27', '28'] -> ['3']
def A8 : Ann := [(0, [2, 3, 4, 9, 10, 11], [2, 3, 4], [6])]
def E8 : Env := [(20, sp20), (21, sp21)]
def I8 (p0 : (k23 : K).ty) (p1 : (k26 : K).ty) (p2 : ((.slice 25 (.slice 4 .bool)) : K).ty) : List V1 := [nfK k23 p0, nfK k26 p1, nfK (.slice 25 (.slice 4 .bool)) p2]
noncomputable def L8_0 : Code := Code.a (Code.a (Code.b (Code.a (Code.b (Func.code Try.f8)))))
def S8_0 (l2 : List (K.ty (K.slice (4 : TypeId) K.bool))) (l9 : List (K.ty (K.slice (4 : TypeId) K.bool))) (x10 : Int) (x11 : Int) (xh0_0 : Int) (xh0_1 : Int) (xh0_2 : Int) (lh0_3 : List (K.ty k45)) (lh1_0 : List (K.ty K.bool)) (lh1_1 : List (K.ty K.bool)) (lh1_2 : List (K.ty K.bool)) : St := sp (30 : Nat) [((2 : Nat), V.v (V1.one (Lf.sl (25 : TypeId) (K.slice (4 : TypeId) K.bool) l2))), ((3 : Nat), V.v (V1.one (Lf.ptr (nat_lit 0) (nat_lit 0)))), ((4 : Nat), V.v (V1.one (Lf.ptr (nat_lit 1) (nat_lit 0)))), ((9 : Nat), V.v (V1.one (Lf.sl (25 : TypeId) (K.slice (4 : TypeId) K.bool) l9))), ((10 : Nat), V.v (V1.one (Lf.int IntKind.i64 x10))), ((11 : Nat), V.v (V1.one (Lf.int IntKind.i64 x11)))] [Ob.box (24 : Nat) [Lf.int IntKind.i64 xh0_0, Lf.int IntKind.i64 xh0_1, Lf.int IntKind.i64 xh0_2, Lf.sl (46 : TypeId) k45 lh0_3], Ob.box (27 : Nat) [Lf.sl (4 : TypeId) K.bool lh1_0, Lf.sl (4 : TypeId) K.bool lh1_1, Lf.sl (4 : TypeId) K.bool lh1_2]]
def X8_0_0 (x6 : Int) : St := sp (30 : Nat) [((6 : Nat), V.v (V1.one (Lf.int IntKind.i64 x6)))] []
def X8_0_1 (l2 : List (K.ty (K.slice (4 : TypeId) K.bool))) (xh0_0 : Int) (xh0_1 : Int) (xh0_2 : Int) (lh0_3 : List (K.ty k45)) (lh1_0 : List (K.ty K.bool)) (lh1_1 : List (K.ty K.bool)) (lh1_2 : List (K.ty K.bool)) : St := sp (30 : Nat) [((2 : Nat), V.v (V1.one (Lf.sl (25 : TypeId) (K.slice (4 : TypeId) K.bool) l2))), ((3 : Nat), V.v (V1.one (Lf.ptr (nat_lit 0) (nat_lit 0)))), ((4 : Nat), V.v (V1.one (Lf.ptr (nat_lit 1) (nat_lit 0))))] [Ob.box (24 : Nat) [Lf.int IntKind.i64 xh0_0, Lf.int IntKind.i64 xh0_1, Lf.int IntKind.i64 xh0_2, Lf.sl (46 : TypeId) k45 lh0_3], Ob.box (27 : Nat) [Lf.sl (4 : TypeId) K.bool lh1_0, Lf.sl (4 : TypeId) K.bool lh1_1, Lf.sl (4 : TypeId) K.bool lh1_2]]
def t8_0 (again : List (K.ty (K.slice (4 : TypeId) K.bool)) → List (K.ty (K.slice (4 : TypeId) K.bool)) → Int → Int → Int → Int → Int → List (K.ty k45) → List (K.ty K.bool) → List (K.ty K.bool) → List (K.ty K.bool) → Prop) (R0 : Int → Prop) (R1 : List (K.ty (K.slice (4 : TypeId) K.bool)) → Int → Int → Int → List (K.ty k45) → List (K.ty K.bool) → List (K.ty K.bool) → List (K.ty K.bool) → Prop) (l2 : List (K.ty (K.slice (4 : TypeId) K.bool))) (l9 : List (K.ty (K.slice (4 : TypeId) K.bool))) (x10 : Int) (x11 : Int) (xh0_0 : Int) (xh0_1 : Int) (xh0_2 : Int) (lh0_3 : List (K.ty k45)) (lh1_0 : List (K.ty K.bool)) (lh1_1 : List (K.ty K.bool)) (lh1_2 : List (K.ty K.bool)) : Prop :=
  brP (decide (x11 < x10)) (bound x11 (List.length l9) ∧ brP (decide ((↑(List.length (getE (K.slice (4 : TypeId) K.bool) l9 x11)) : Int) > (500 : Int))) (R0 (1 : Int)) (again l2 l9 x10 (IntKind.wrap IntKind.i64 (x11 + (1 : Int))) xh0_0 xh0_1 xh0_2 lh0_3 lh1_0 lh1_1 lh1_2)) (R1 l2 xh0_0 xh0_1 xh0_2 lh0_3 lh1_0 lh1_1 lh1_2)
theorem t8_0_mono {again : List (K.ty (K.slice (4 : TypeId) K.bool)) → List (K.ty (K.slice (4 : TypeId) K.bool)) → Int → Int → Int → Int → Int → List (K.ty k45) → List (K.ty K.bool) → List (K.ty K.bool) → List (K.ty K.bool) → Prop} {R0 : Int → Prop} {R1 : List (K.ty (K.slice (4 : TypeId) K.bool)) → Int → Int → Int → List (K.ty k45) → List (K.ty K.bool) → List (K.ty K.bool) → List (K.ty K.bool) → Prop} {again' : List (K.ty (K.slice (4 : TypeId) K.bool)) → List (K.ty (K.slice (4 : TypeId) K.bool)) → Int → Int → Int → Int → Int → List (K.ty k45) → List (K.ty K.bool) → List (K.ty K.bool) → List (K.ty K.bool) → Prop} {R0' : Int → Prop} {R1' : List (K.ty (K.slice (4 : TypeId) K.bool)) → Int → Int → Int → List (K.ty k45) → List (K.ty K.bool) → List (K.ty K.bool) → List (K.ty K.bool) → Prop} (ha : ∀ l2 l9 x10 x11 xh0_0 xh0_1 xh0_2 lh0_3 lh1_0 lh1_1 lh1_2, again l2 l9 x10 x11 xh0_0 xh0_1 xh0_2 lh0_3 lh1_0 lh1_1 lh1_2 → again' l2 l9 x10 x11 xh0_0 xh0_1 xh0_2 lh0_3 lh1_0 lh1_1 lh1_2) (hr0 : ∀ x6, R0 x6 → R0' x6) (hr1 : ∀ l2 xh0_0 xh0_1 xh0_2 lh0_3 lh1_0 lh1_1 lh1_2, R1 l2 xh0_0 xh0_1 xh0_2 lh0_3 lh1_0 lh1_1 lh1_2 → R1' l2 xh0_0 xh0_1 xh0_2 lh0_3 lh1_0 lh1_1 lh1_2) (l2 : List (K.ty (K.slice (4 : TypeId) K.bool))) (l9 : List (K.ty (K.slice (4 : TypeId) K.bool))) (x10 : Int) (x11 : Int) (xh0_0 : Int) (xh0_1 : Int) (xh0_2 : Int) (lh0_3 : List (K.ty k45)) (lh1_0 : List (K.ty K.bool)) (lh1_1 : List (K.ty K.bool)) (lh1_2 : List (K.ty K.bool)) :
    t8_0 again R0 R1 l2 l9 x10 x11 xh0_0 xh0_1 xh0_2 lh0_3 lh1_0 lh1_1 lh1_2 → t8_0 again' R0' R1' l2 l9 x10 x11 xh0_0 xh0_1 xh0_2 lh0_3 lh1_0 lh1_1 lh1_2 :=
  brM (andM (id) (brM (hr0 _) (ha _ _ _ _ _ _ _ _ _ _ _))) (hr1 _ _ _ _ _ _ _ _)
theorem t8_0_eq (n : Nat) (Q : Ex → St → Prop) (l2 : List (K.ty (K.slice (4 : TypeId) K.bool))) (l9 : List (K.ty (K.slice (4 : TypeId) K.bool))) (x10 : Int) (x11 : Int) (xh0_0 : Int) (xh0_1 : Int) (xh0_2 : Int) (lh0_3 : List (K.ty k45)) (lh1_0 : List (K.ty K.bool)) (lh1_1 : List (K.ty K.bool)) (lh1_2 : List (K.ty K.bool)) :
    t8_0 (fun l2 l9 x10 x11 xh0_0 xh0_1 xh0_2 lh0_3 lh1_0 lh1_1 lh1_2 => loopP (awp tt E8 A8 L8_0 0) ([(2 : Nat), (3 : Nat), (4 : Nat), (9 : Nat), (10 : Nat), (11 : Nat)], [(2 : Nat), (3 : Nat), (4 : Nat)], [(6 : Nat)]) n (S8_0 l2 l9 x10 x11 xh0_0 xh0_1 xh0_2 lh0_3 lh1_0 lh1_1 lh1_2) Q) (fun x6 => Q (Ex.ret) (X8_0_0 x6)) (fun l2 xh0_0 xh0_1 xh0_2 lh0_3 lh1_0 lh1_1 lh1_2 => Q (Ex.exit (nat_lit 0)) (X8_0_1 l2 xh0_0 xh0_1 xh0_2 lh0_3 lh1_0 lh1_1 lh1_2)) l2 l9 x10 x11 xh0_0 xh0_1 xh0_2 lh0_3 lh1_0 lh1_1 lh1_2 = (loopP (awp tt E8 A8 L8_0 0) ([(2 : Nat), (3 : Nat), (4 : Nat), (9 : Nat), (10 : Nat), (11 : Nat)], [(2 : Nat), (3 : Nat), (4 : Nat)], [(6 : Nat)]) (n + 1) (S8_0 l2 l9 x10 x11 xh0_0 xh0_1 xh0_2 lh0_3 lh1_0 lh1_1 lh1_2) Q) := by kernel_rfl
def G8_0 (R0 : Int → Prop) (R1 : List (K.ty (K.slice (4 : TypeId) K.bool)) → Int → Int → Int → List (K.ty k45) → List (K.ty K.bool) → List (K.ty K.bool) → List (K.ty K.bool) → Prop) : Nat → List (K.ty (K.slice (4 : TypeId) K.bool)) → List (K.ty (K.slice (4 : TypeId) K.bool)) → Int → Int → Int → Int → Int → List (K.ty k45) → List (K.ty K.bool) → List (K.ty K.bool) → List (K.ty K.bool) → Prop
  | 0, _, _, _, _, _, _, _, _, _, _, _ => False
  | n + 1, l2, l9, x10, x11, xh0_0, xh0_1, xh0_2, lh0_3, lh1_0, lh1_1, lh1_2 => t8_0 (G8_0 R0 R1 n) R0 R1 l2 l9 x10 x11 xh0_0 xh0_1 xh0_2 lh0_3 lh1_0 lh1_1 lh1_2
theorem T8_0 {R0 : Int → Prop} {R1 : List (K.ty (K.slice (4 : TypeId) K.bool)) → Int → Int → Int → List (K.ty k45) → List (K.ty K.bool) → List (K.ty K.bool) → List (K.ty K.bool) → Prop} (Q : Ex → St → Prop) (hr0 : ∀ x6, R0 x6 → Of (Q (Ex.ret) (X8_0_0 x6))) (hr1 : ∀ l2 xh0_0 xh0_1 xh0_2 lh0_3 lh1_0 lh1_1 lh1_2, R1 l2 xh0_0 xh0_1 xh0_2 lh0_3 lh1_0 lh1_1 lh1_2 → Of (Q (Ex.exit (nat_lit 0)) (X8_0_1 l2 xh0_0 xh0_1 xh0_2 lh0_3 lh1_0 lh1_1 lh1_2))) : ∀ (n : Nat) (l2 : List (K.ty (K.slice (4 : TypeId) K.bool))) (l9 : List (K.ty (K.slice (4 : TypeId) K.bool))) (x10 : Int) (x11 : Int) (xh0_0 : Int) (xh0_1 : Int) (xh0_2 : Int) (lh0_3 : List (K.ty k45)) (lh1_0 : List (K.ty K.bool)) (lh1_1 : List (K.ty K.bool)) (lh1_2 : List (K.ty K.bool)), G8_0 R0 R1 n l2 l9 x10 x11 xh0_0 xh0_1 xh0_2 lh0_3 lh1_0 lh1_1 lh1_2 → Of (loopP (awp tt E8 A8 L8_0 0) ([(2 : Nat), (3 : Nat), (4 : Nat), (9 : Nat), (10 : Nat), (11 : Nat)], [(2 : Nat), (3 : Nat), (4 : Nat)], [(6 : Nat)]) n (S8_0 l2 l9 x10 x11 xh0_0 xh0_1 xh0_2 lh0_3 lh1_0 lh1_1 lh1_2) Q) := by
  intro n
  induction n with
  | zero => intro l2 l9 x10 x11 xh0_0 xh0_1 xh0_2 lh0_3 lh1_0 lh1_1 lh1_2 h; exact h.elim
  | succ n ih =>
    intro l2 l9 x10 x11 xh0_0 xh0_1 xh0_2 lh0_3 lh1_0 lh1_1 lh1_2 h
    exact kcO (t8_0_eq n Q l2 l9 x10 x11 xh0_0 xh0_1 xh0_2 lh0_3 lh1_0 lh1_1 lh1_2) (t8_0_mono (fun _ _ _ _ _ _ _ _ _ _ _ h => (ih _ _ _ _ _ _ _ _ _ _ _ h).out) (fun _ h => (hr0 _ h).out) (fun _ _ _ _ _ _ _ _ h => (hr1 _ _ _ _ _ _ _ _ h).out) l2 l9 x10 x11 xh0_0 xh0_1 xh0_2 lh0_3 lh1_0 lh1_1 lh1_2 h)
def t8 (Q : List V1 → List Ob → Prop) (lp0 : K.ty k23 → K.ty k26 → K.ty (K.slice (25 : TypeId) (K.slice (4 : TypeId) K.bool)) → Prop) (p0 : K.ty k23) (p1 : K.ty k26) (p2 : K.ty (K.slice (25 : TypeId) (K.slice (4 : TypeId) K.bool))) : Prop :=
  lp0 p0 p1 p2
theorem t8_mono {Q : List V1 → List Ob → Prop} {Q' : List V1 → List Ob → Prop} {lp0 : K.ty k23 → K.ty k26 → K.ty (K.slice (25 : TypeId) (K.slice (4 : TypeId) K.bool)) → Prop} {lp0' : K.ty k23 → K.ty k26 → K.ty (K.slice (25 : TypeId) (K.slice (4 : TypeId) K.bool)) → Prop} (hq : ∀ r h, Q r h → Q' r h) (hlp0 : ∀ p0 p1 p2, lp0 p0 p1 p2 → lp0' p0 p1 p2) (p0 : K.ty k23) (p1 : K.ty k26) (p2 : K.ty (K.slice (25 : TypeId) (K.slice (4 : TypeId) K.bool))) :
    t8 Q lp0 p0 p1 p2 → t8 Q' lp0' p0 p1 p2 :=
  hlp0 _ _ _
theorem t8_eq (Q : List V1 → List Ob → Prop) (p0 : K.ty k23) (p1 : K.ty k26) (p2 : K.ty (K.slice (25 : TypeId) (K.slice (4 : TypeId) K.bool))) :
    t8 Q (fun p0 p1 p2 => ∃ m, loopP (awp tt E8 A8 L8_0 0) ([(2 : Nat), (3 : Nat), (4 : Nat), (9 : Nat), (10 : Nat), (11 : Nat)], [(2 : Nat), (3 : Nat), (4 : Nat)], [(6 : Nat)]) m (S8_0 (p2) (p2) ((↑(List.length p2) : Int)) ((0 : Int)) (p0.fst) (p0.snd.fst) (p0.snd.snd.fst) (p0.snd.snd.snd) (p1.fst) (p1.snd.fst) (p1.snd.snd)) (blkC (0 : Nat) (seqC (awp tt E8 A8 (Code.b (Code.b (Func.code Try.f8))) (0 : Nat)) (topC tt Try.f8 0 Q)))) p0 p1 p2 = (afun tt E8 A8 Try.f8 (I8 p0 p1 p2) [] Q) := by kernel_rfl
def t8c0x1 (Q : List V1 → List Ob → Prop) (p0 : K.ty k23) (p1 : K.ty k26) (p2 : K.ty (K.slice (25 : TypeId) (K.slice (4 : TypeId) K.bool))) (l2e3 : List (K.ty (K.slice (4 : TypeId) K.bool))) (xh0_0e3 : Int) (xh0_1e3 : Int) (xh0_2e3 : Int) (lh0_3e3 : List (K.ty k45)) (lh1_0e3 : List (K.ty K.bool)) (lh1_1e3 : List (K.ty K.bool)) (lh1_2e3 : List (K.ty K.bool)) : Prop :=
  brP (decide ((↑(List.length l2e3) : Int) > (30 : Int))) (Q [V1.one (Lf.int IntKind.i64 (1 : Int))] []) (List.length (List.set (List.replicate (1 : Nat) (K.dflt k26)) (0 : Nat) (lh1_0e3, lh1_1e3, lh1_2e3)) ≤ (1000000 : Nat) ∧ brP (decide ((bif List.any (List.set (List.replicate (1 : Nat) (K.dflt k26)) (0 : Nat) (lh1_0e3, lh1_1e3, lh1_2e3)) bigS then (1 : Int) else (0 : Int)) > (0 : Int))) (Q [V1.one (Lf.int IntKind.i64 (1 : Int))] []) (wideL (xh0_0e3, xh0_1e3, xh0_2e3, lh0_3e3) ∧ ∀ (v11 : Int), isBit v11 → (v11 = (0 : Int) → okL (xh0_0e3, xh0_1e3, xh0_2e3, lh0_3e3)) → Q [V1.one (Lf.int IntKind.i64 v11)] []))
theorem t8c0x1_mono {Q : List V1 → List Ob → Prop} {Q' : List V1 → List Ob → Prop} (hq : ∀ r h, Q r h → Q' r h) (p0 : K.ty k23) (p1 : K.ty k26) (p2 : K.ty (K.slice (25 : TypeId) (K.slice (4 : TypeId) K.bool))) (l2e3 : List (K.ty (K.slice (4 : TypeId) K.bool))) (xh0_0e3 : Int) (xh0_1e3 : Int) (xh0_2e3 : Int) (lh0_3e3 : List (K.ty k45)) (lh1_0e3 : List (K.ty K.bool)) (lh1_1e3 : List (K.ty K.bool)) (lh1_2e3 : List (K.ty K.bool)) :
    t8c0x1 Q p0 p1 p2 l2e3 xh0_0e3 xh0_1e3 xh0_2e3 lh0_3e3 lh1_0e3 lh1_1e3 lh1_2e3 → t8c0x1 Q' p0 p1 p2 l2e3 xh0_0e3 xh0_1e3 xh0_2e3 lh0_3e3 lh1_0e3 lh1_1e3 lh1_2e3 :=
  brM (hq _ _) (andM (id) (brM (hq _ _) (andM (id) (fun hh x => ap (hh x) (fun hh x => ap (hh x) (fun hh x => ap (hh x) (hq _ _)))))))
theorem t8c0x1_eq (Q : List V1 → List Ob → Prop) (p0 : K.ty k23) (p1 : K.ty k26) (p2 : K.ty (K.slice (25 : TypeId) (K.slice (4 : TypeId) K.bool))) (l2e3 : List (K.ty (K.slice (4 : TypeId) K.bool))) (xh0_0e3 : Int) (xh0_1e3 : Int) (xh0_2e3 : Int) (lh0_3e3 : List (K.ty k45)) (lh1_0e3 : List (K.ty K.bool)) (lh1_1e3 : List (K.ty K.bool)) (lh1_2e3 : List (K.ty K.bool)) :
    t8c0x1 Q p0 p1 p2 l2e3 xh0_0e3 xh0_1e3 xh0_2e3 lh0_3e3 lh1_0e3 lh1_1e3 lh1_2e3 = ((blkC (0 : Nat) (seqC (awp tt E8 A8 (Code.b (Code.b (Func.code Try.f8))) (0 : Nat)) (topC tt Try.f8 0 Q))) (Ex.exit (nat_lit 0)) (X8_0_1 l2e3 xh0_0e3 xh0_1e3 xh0_2e3 lh0_3e3 lh1_0e3 lh1_1e3 lh1_2e3)) := by kernel_rfl
def t8c0x0 (Q : List V1 → List Ob → Prop) (p0 : K.ty k23) (p1 : K.ty k26) (p2 : K.ty (K.slice (25 : TypeId) (K.slice (4 : TypeId) K.bool))) (x6e3 : Int) : Prop :=
  Q [V1.one (Lf.int IntKind.i64 x6e3)] []
theorem t8c0x0_mono {Q : List V1 → List Ob → Prop} {Q' : List V1 → List Ob → Prop} (hq : ∀ r h, Q r h → Q' r h) (p0 : K.ty k23) (p1 : K.ty k26) (p2 : K.ty (K.slice (25 : TypeId) (K.slice (4 : TypeId) K.bool))) (x6e3 : Int) :
    t8c0x0 Q p0 p1 p2 x6e3 → t8c0x0 Q' p0 p1 p2 x6e3 :=
  hq _ _
theorem t8c0x0_eq (Q : List V1 → List Ob → Prop) (p0 : K.ty k23) (p1 : K.ty k26) (p2 : K.ty (K.slice (25 : TypeId) (K.slice (4 : TypeId) K.bool))) (x6e3 : Int) :
    t8c0x0 Q p0 p1 p2 x6e3 = ((blkC (0 : Nat) (seqC (awp tt E8 A8 (Code.b (Code.b (Func.code Try.f8))) (0 : Nat)) (topC tt Try.f8 0 Q))) (Ex.ret) (X8_0_0 x6e3)) := by kernel_rfl
def H8 (Q : List V1 → List Ob → Prop) (p0 : K.ty k23) (p1 : K.ty k26) (p2 : K.ty (K.slice (25 : TypeId) (K.slice (4 : TypeId) K.bool))) : Prop := t8 Q (fun p0 p1 p2 => ∃ m, G8_0 (fun x6e3 => t8c0x0 Q p0 p1 p2 x6e3) (fun l2e3 xh0_0e3 xh0_1e3 xh0_2e3 lh0_3e3 lh1_0e3 lh1_1e3 lh1_2e3 => t8c0x1 Q p0 p1 p2 l2e3 xh0_0e3 xh0_1e3 xh0_2e3 lh0_3e3 lh1_0e3 lh1_1e3 lh1_2e3) m (p2) (p2) ((↑(List.length p2) : Int)) ((0 : Int)) (p0.fst) (p0.snd.fst) (p0.snd.snd.fst) (p0.snd.snd.snd) (p1.fst) (p1.snd.fst) (p1.snd.snd)) p0 p1 p2
theorem ok8 (Q : List V1 → List Ob → Prop) (p0 : K.ty k23) (p1 : K.ty k26) (p2 : K.ty (K.slice (25 : TypeId) (K.slice (4 : TypeId) K.bool))) (h : H8 Q p0 p1 p2) : Of (afun tt E8 A8 Try.f8 (I8 p0 p1 p2) [] Q) :=
  kcO (t8_eq Q p0 p1 p2) (t8_mono (fun _ _ h => h) (fun p0 p1 p2 ⟨m, h⟩ => ⟨m, (T8_0 _ (fun x6e3 h => kcO (t8c0x0_eq _ _ _ _ _) (t8c0x0_mono (fun _ _ h => h) _ _ _ _ h)) (fun l2e3 xh0_0e3 xh0_1e3 xh0_2e3 lh0_3e3 lh1_0e3 lh1_1e3 lh1_2e3 h => kcO (t8c0x1_eq _ _ _ _ _ _ _ _ _ _ _ _) (t8c0x1_mono (fun _ _ h => h) _ _ _ _ _ _ _ _ _ _ _ h)) m _ _ _ _ _ _ _ _ _ _ _ h).out⟩) p0 p1 p2 h)
theorem env8 : EnvOk Try.prog E8 := .cons spec20 (by kernel_rfl) <| .cons spec21 (by kernel_rfl) <| .nil
theorem loop8 (ins : List (List Bool)) (a b c : Int) (rs : List Rung) (s1 s2 s3 : List Bool) (R0 : Int → Prop) (R1 : List (List Bool) → Int → Int → Int → List Rung → List Bool → List Bool → List Bool → Prop) (hl : ins.length ≤ 4611686018427387904) (h0 : R0 1)
    (h : (∀ x ∈ ins, x.length ≤ 500) → R1 ins a b c rs s1 s2 s3) :
    ∀ n (i : Nat), ins.length - i < n → i ≤ ins.length → (∀ x ∈ ins.take i, x.length ≤ 500) → G8_0 R0 R1 n ins ins ins.length i a b c rs s1 s2 s3 := by
  intro n
  induction n with
  | zero => intro i h; omega
  | succ n ih =>
    intro i hn hi ha
    refine brP_intro (fun d => ?_) (fun d => ?_)
    · have d : i < ins.length := by simpa using d
      refine ⟨⟨by omega, by omega⟩, ?_⟩
      refine brP_intro (fun e => h0) (fun e => ?_)
      have e : ¬ ((List.length (getE kbs ins i) : Nat) : Int) > 500 := by simpa using e
      rw [wrap_in (x := (i : Int) + 1) (by omega) (by omega)]
      refine ih (i + 1) (by omega) (by omega) fun r hr => ?_
      rw [List.take_succ_eq_append_getElem d] at hr
      rcases List.mem_append.1 hr with hr | hr
      · exact ha r hr
      · have hg : getE kbs ins i = ins[i] := by simp [getE, List.getD, d]
        rw [List.mem_singleton] at hr
        rw [hr, ← hg]
        omega
    · have d : ¬ i < ins.length := by simpa using d
      rw [List.take_of_length_le (by omega)] at ha
      exact h ha
theorem spec8 : SpecOk Try.prog 8 sp8 := S3.ok tt_ok mixed env8 Try.func8 fun (l : Lad) (st : Sta) (ins : List (List Bool)) Q h => ok8 Q l st ins <| by
  obtain ⟨⟨h1, h2⟩, h⟩ := h
  have one : Q [.one (.int .i64 1)] [] := h 1 (.inr rfl) (fun e => by cases e)
  refine ⟨ins.length + 1, loop8 ins l.1 l.2.1 l.2.2.1 (Lad.rungs l) st.1 st.2.1 st.2.2 _ _ h2 one (fun ha => ?_) _ 0 (by omega) (by omega) (by simp)⟩
  refine brP_intro (fun d => one) (fun d => ⟨by simp, ?_⟩)
  have d : ¬ (ins.length : Int) > 30 := by simpa using d
  refine brP_intro (fun e => one) (fun e => ⟨h1, fun v hv hok => h v hv fun e0 => ⟨hok e0, ?_, by omega, ha⟩⟩)
  cases hb : bigS st with
  | false => rfl
  | true =>
    have : (List.any [st] bigS) = true := by simp [hb]
    have e2 : decide ((bif List.any [st] bigS then (1 : Int) else 0) > 0) = false := e
    rw [this] at e2
    simp at e2
end Go.AM
namespace Go.AM
open Go.Proofs
-- f22 "busbar/busbarlaw20.example" [] -> ['24']
def A22 : Ann := []
def E22 : Env := []
def I22 : List V1 := []
def t22 (Q : List V1 → List Ob → Prop) : Prop :=
  Q [V1.agg [Lf.int IntKind.i64 (1 : Int), Lf.int IntKind.i64 (2 : Int), Lf.int IntKind.i64 (0 : Int), Lf.own (0 : Nat)]] [Ob.row (46 : TypeId) k45 (List.set (List.set (List.set (List.replicate (3 : Nat) (K.dflt k45)) (0 : Nat) (ByteArray.mk #[], List.set (List.replicate (1 : Nat) (K.dflt k74)) (0 : Nat) ((0 : Int), ((0 : Int), (0 : Int)), ByteArray.mk #[(76 : UInt8)], ByteArray.mk #[(82 : UInt8)]), [], ByteArray.mk #[(122 : UInt8)])) (1 : Nat) (ByteArray.mk #[], List.set (List.replicate (1 : Nat) (K.dflt k74)) (0 : Nat) ((0 : Int), ((0 : Int), (0 : Int)), ByteArray.mk #[(76 : UInt8)], ByteArray.mk #[(82 : UInt8)]), List.set (List.replicate (1 : Nat) (K.dflt k76)) (0 : Nat) ((0 : Int), (1 : Int), (0 : Int)), ByteArray.mk #[])) (2 : Nat) (ByteArray.mk #[(122 : UInt8)], List.set (List.replicate (1 : Nat) (K.dflt k74)) (0 : Nat) ((0 : Int), ((0 : Int), (0 : Int)), ByteArray.mk #[(76 : UInt8)], ByteArray.mk #[(82 : UInt8)]), List.set (List.replicate (1 : Nat) (K.dflt k76)) (0 : Nat) ((0 : Int), (1 : Int), (1 : Int)), ByteArray.mk #[]))]
theorem t22_mono {Q : List V1 → List Ob → Prop} {Q' : List V1 → List Ob → Prop} (hq : ∀ r h, Q r h → Q' r h) :
    t22 Q → t22 Q' :=
  hq _ _
theorem t22_eq (Q : List V1 → List Ob → Prop) :
    t22 Q = (afun tt E22 A22 Try.f22 (I22) [] Q) := by kernel_rfl
def H22 (Q : List V1 → List Ob → Prop) : Prop := t22 Q
theorem ok22 (Q : List V1 → List Ob → Prop) (h : H22 Q) : Of (afun tt E22 A22 Try.f22 (I22) [] Q) :=
  kcO (t22_eq Q) (t22_mono (fun _ _ h => h) h)
theorem env22 : EnvOk Try.prog E22 := .nil
theorem spec22 : SpecOk Try.prog 22 sp22 := S0.okS tt_ok mixed [k23] env22 Try.func22 fun Q h => ok22 _ h
end Go.AM
namespace Go.AM
open Go.RowKit Go.Proofs
noncomputable def rid10 : Nat := match Code.a (Code.a z11) with | .region i _ _ => i | _ => 0
noncomputable def ops10 : Array Oper := match Code.a (Code.a z11) with | .region _ ops _ => ops | _ => #[]
theorem r10_eq : Code.a (Code.a z11) = .region rid10 ops10 false := by kernel_rfl
noncomputable def o62 : Oper := (ops10.toList[1]?).getD default
theorem ops10_eq : ops10.toList = ops10.toList.take 1 ++ (o62 :: []) := by kernel_rfl
theorem o62_guard : o62.guard = none := by kernel_rfl
theorem o62_dst : o62.dst = some 62 := by kernel_rfl
noncomputable def call62 : Call := match o62.op with | .call c => c | _ => default
theorem o62_op : o62.op = .call call62 := by kernel_rfl
theorem call62_callee : call62.callee = .value (.func 26) := by kernel_rfl
theorem call62_args : call62.args = #[.tmp 61, .tmp 14] := by kernel_rfl
theorem spec26 : SpecOk Try.prog 26 (afun tt [] [] Try.f26) := afun_sound tt_ok EnvOk.nil mixed Try.func26
theorem body11 : Try.f11.body = some c11 := by kernel_rfl
theorem body41 : Try.f41.body = some c41 := by kernel_rfl
theorem load61_eq (Q : St → Prop) (l : Lad) (inp : List Bool) (st0 : Sta) (bases : List Int) (s : Sta) (on : Bool) (did : List Bool) :
    Q (sp 88 (sl11 ++ [(61, .v (nfK k23 l))]) (hp11 l inp st0 bases s on did)) = opsK tt E11 ops10.toList (ops10.toList.take 1) (sp 88 sl11 (hp11 l inp st0 bases s on did)) Q := by kernel_rfl
def keep62 : List Nat := [3, 4, 5, 6, 7, 8, 11, 12, 13, 14, 62]
def L62 : List Nat := [0, 1, 2, 3, 4, 5, 6, 7, 8, 9, 10, 12, 13]
theorem mid62_eq (Q : St → Prop) (u : List Value) (l : Lad) (inp : List Bool) (st0 : Sta) (bases : List Int) (s : Sta) (on : Bool) (did : List Bool) :
    Q (sp 88 (sl11 ++ [(62, .v (.one (.clo 41 [.id 11, .id 12])))]) (hp11 l inp st0 bases s on did ++ [.box 24 (leaves k23 l), .box 64 [.ptr 9 0]])) =
    dropK keep62 L62 (putS ⟨spl 88 0 (sl11 ++ [(61, .v (nfK k23 l))]), hp11 l inp st0 bases s on did ++ [.frame u (spl 88 0 (sl11 ++ [(61, .v (nfK k23 l))]))] ++ [.box 24 (leaves k23 l), .box 64 [.ptr 9 0]]⟩ (some 62) (.v (.one (.clo 41 [.id 12, .id 13])))) Q := by kernel_rfl
theorem start41_eq (Q : Ex → St → Prop) (u : List Value) (g l' : Nat) (oD oL : Obj) (l : Lad) (inp : List Bool) (st0 : Sta) (bases : List Int) (s : Sta) (on : Bool) (did : List Bool) :
    (Q .normal (st41 u g l' oD oL l inp st0 bases s on did 0)) = awp tt E41 [] (Code.a c41) 0 (sp 34 [(0, .v (.one (.yld l'))), (1, .v (.one (.ptr 11 0))), (2, .v (.one (.ptr 12 0)))] (base41 u g l' oD oL l inp st0 bases s on did)) Q := by kernel_rfl
abbrev ks11 : List K := [k26, kbs, ki]
theorem res_bad (Q : QT) (e : Int) : Q [nfK k26 zeroS, .one (.sl 4 .bool []), .one (.int .i64 e)] [] = resK tt (sr11 e) Try.f11.results.toList fun vs => exportK 0 (sr11 e) vs (SQ ks11 Q) := by kernel_rfl
theorem res_bad2 (Q : QT) (u : List Value) (g l' : Nat) (oD oL : Obj) (l : Lad) (inp : List Bool) (st0 : Sta) (e : Int) (bases : List Int) (s : Sta) (on : Bool) (did : List Bool) :
    Q [nfK k26 zeroS, .one (.sl 4 .bool []), .one (.int .i64 e)] [] =
    resK tt (sp 88 (sl11 ++ [(62, .v (.one (.clo 41 [.id 11, .id 12])))]) (hpG l inp st0 [.nils, .nils, .nils] [.nils] [.int .i64 e] bases s on did ++ mo41 u g l' oD oL l)) Try.f11.results.toList fun vs =>
      exportK 0 (sp 88 (sl11 ++ [(62, .v (.one (.clo 41 [.id 11, .id 12])))]) (hpG l inp st0 [.nils, .nils, .nils] [.nils] [.int .i64 e] bases s on did ++ mo41 u g l' oD oL l)) vs (SQ ks11 Q) := by kernel_rfl
theorem res_good (Q : QT) (u : List Value) (g l' : Nat) (oD oL : Obj) (l : Lad) (inp : List Bool) (st0 : Sta) (bases : List Int) (s : Sta) (on : Bool) (did : List Bool) :
    Q [nfK k26 s, .one (.sl 4 .bool did), .one (.int .i64 0)] [] =
    resK tt (sp 88 sk11 (hpG l inp st0 (leaves k26 s) [.own 10] [.int .i64 0] bases s on did ++ mo41 u g l' oD oL l)) Try.f11.results.toList fun vs =>
      exportK 0 (sp 88 sk11 (hpG l inp st0 (leaves k26 s) [.own 10] [.int .i64 0] bases s on did ++ mo41 u g l' oD oL l)) vs (SQ ks11 Q) := by kernel_rfl
theorem raw14_eq (u : List Value) (g l' : Nat) (oD oL oX : Obj) (l : Lad) (inp : List Bool) (st0 : Sta) (r1 r2 r3 : List Lf) (bases : List Int) (s : Sta) (on : Bool) (did : List Bool) (sl : List (Nat × V)) (n : Nat) :
    setOb 14 (.raw g oX) (sp n sl (hpG l inp st0 r1 r2 r3 bases s on did ++ mo41 u g l' oD oL l)) = sp n sl (hpG l inp st0 r1 r2 r3 bases s on did ++ mo41 u g l' oX oL l) := by kernel_rfl
theorem raw15_eq (u : List Value) (g l' : Nat) (oD oL oX : Obj) (l : Lad) (inp : List Bool) (st0 : Sta) (r1 r2 r3 : List Lf) (bases : List Int) (s : Sta) (on : Bool) (did : List Bool) (cs : List V) :
    setOb 15 (.raw l' oX) ⟨cs, hpG l inp st0 r1 r2 r3 bases s on did ++ mo41 u g l' oD oL l⟩ = ⟨cs, hpG l inp st0 r1 r2 r3 bases s on did ++ mo41 u g l' oD oX l⟩ := by kernel_rfl
theorem st41_heap (u : List Value) (g l' : Nat) (oD oL : Obj) (l : Lad) (inp : List Bool) (st0 : Sta) (bases : List Int) (s : Sta) (on : Bool) (did : List Bool) (i : Int) :
    (st41 u g l' oD oL l inp st0 bases s on did i).heap = hpG l inp st0 [.nils, .nils, .nils] [.nils] [.int .i64 0] bases s on did ++ mo41 u g l' oD oL l := by kernel_rfl
theorem stp_eq (u : List Value) (g l' : Nat) (oD oL : Obj) (l : Lad) (inp : List Bool) (st0 : Sta) (bases : List Int) (s : Sta) (on : Bool) (did : List Bool) :
    stp u g l' oD oL l inp st0 bases s on did = ⟨spl 88 0 (sl11 ++ [(62, .v (.one (.clo 41 [.id 11, .id 12])))]), hpG l inp st0 [.nils, .nils, .nils] [.nils] [.int .i64 0] bases s on did ++ mo41 u g l' oD oL l⟩ := by kernel_rfl
section
variable {w0 : World} {Ok0 : Nat → Prop} {Q : QT}
/-- What the scan hands back. -/
def R11 (w0 : World) (Ok0 : Nat → Prop) (Q : QT) : Ending → World → Prop := Ret w0 Ok0 [] (SQ ks11 Q)
theorem fin_ret {w : World} {Ok : Nat → Prop} {β : List Value} {st : St} {a : Act} (r : Rel (Held w0 []) Ok0 w0 w Ok β st a.tmps.toList) (h : resK tt st Try.f11.results.toList fun vs => exportK 0 st vs (SQ ks11 Q)) :
    ∃ v, (results Try.f11 a.tmps).run Try.prog w = .ok v w ∧ R11 w0 Ok0 Q (.returned v) w := by
  obtain ⟨vs, us, hq, hall, hrun⟩ := resK_sound tt_ok r.s h
  obtain ⟨res, h', β', hk', hrv, hrel⟩ := exportK_sound r hall hq
  refine ⟨_, results_run hrun, res, h', Ok, β', hk', ?_, hrel⟩
  cases res with
  | nil => trivial
  | cons x xs => cases us with
    | nil => exact hrv.elim
    | cons u us => cases xs with
      | nil => cases us with
        | nil => exact hrv.1
        | cons _ _ => exact hrv.2.elim
      | cons y ys => cases us with
        | nil => exact hrv.2.elim
        | cons u2 us => exact ⟨_, rfl, hrv⟩
/-- The scan's way back: the block of its rounds' deferred calls is empty. -/
theorem fin_leave {n : Nat} {w : World} {Ok : Nat → Prop} {β : List Value} {a : Act} {sl : List (Nat × V)} {u : List Value} {g l' : Nat} {oL : Obj} {l : Lad} {inp : List Bool} {st0 : Sta} {r1 r2 r3 : List Lf} {bases : List Int} {s : Sta} {on : Bool} {did : List Bool}
    (hd : a.defers = [{ target := .collected g, args := #[] }])
    (r : Rel (Held w0 []) Ok0 w0 w Ok β (sp 88 sl (hpG l inp st0 r1 r2 r3 bases s on did ++ mo41 u g l' (.deferred (some [])) oL l)) a.tmps.toList)
    (h : resK tt (sp 88 sl (hpG l inp st0 r1 r2 r3 bases s on did ++ mo41 u g l' (.deferred none) oL l)) Try.f11.results.toList fun vs =>
      exportK 0 (sp 88 sl (hpG l inp st0 r1 r2 r3 bases s on did ++ mo41 u g l' (.deferred none) oL l)) vs (SQ ks11 Q)) :
    LeavesInM Fence.wide n Try.prog Try.f11 a.tmps (R11 w0 Ok0 Q) a.defers .returning w := by
  have hB : ∀ g, Held w0 [] g → g < w0.heap.size := fun g hg => hg.1
  have hw := (r.raw_get (i := 14) (g := g) (o := .deferred (some [])) rfl).1
  have r2 := r.raw_set hB (i := 14) (g := g) (o := .deferred (some [])) rfl (.deferred none)
  rw [raw14_eq] at r2
  rw [hd]
  exact ⟨by simp, .inl ⟨_, _, rfl, run_takeDeferred hw, fin_ret r2 h⟩⟩
end
/-- The scan, its results taken up as they lie. -/
def p11 : PT := fun args h K => h = [] ∧ ∃ l inp st Q, args = [nfK k23 l, nfK kbs inp, nfK k26 st] ∧ K = SQ ks11 Q ∧ F11 l inp st Q
theorem start11 (l : Lad) (inp : List Bool) (st : Sta) : (⟨[nfK k23 l, nfK kbs inp, nfK k26 st].map V.v ++ List.replicate 85 (.v (.one .undef)), []⟩ : St) = st11 l inp st := by kernel_rfl
theorem ntmps11 : Try.f11.ntmps = 88 := by kernel_rfl
theorem ntmps41 : Try.f41.ntmps = 34 := by kernel_rfl
end Go.AM
namespace Go.AM
open Go.RowKit Go.Proofs
theorem start41 (l' : Nat) : spl 34 0 [(0, .v (.one (.yld l'))), (1, .v (.one (.ptr 11 0))), (2, .v (.one (.ptr 12 0)))] = [.v (.one (.yld l')), .v (.one (.ptr 11 0)), .v (.one (.ptr 12 0))] ++ List.replicate 31 (.v (.one .undef)) := by kernel_rfl
theorem raw15_sp (u : List Value) (g l' : Nat) (oD oL oX : Obj) (l : Lad) (inp : List Bool) (st0 : Sta) (r1 r2 r3 : List Lf) (bases : List Int) (s : Sta) (on : Bool) (did : List Bool) (sl : List (Nat × V)) (cs : List V) :
    setOb 15 (.raw l' oX) ⟨cs, (sp 34 sl (hpG l inp st0 r1 r2 r3 bases s on did ++ mo41 u g l' oD oL l)).heap⟩ = ⟨cs, hpG l inp st0 r1 r2 r3 bases s on did ++ mo41 u g l' oD oX l⟩ := by kernel_rfl
theorem push_eq (u : List Value) (g l' : Nat) (oD oL : Obj) (l : Lad) (inp : List Bool) (st0 : Sta) (bases : List Int) (s : Sta) (on : Bool) (did : List Bool) :
    (((hp11 l inp st0 bases s on did ++ [.box 24 (leaves k23 l), .box 64 [.ptr 9 0]]) ++ [.frame u (spl 88 0 (sl11 ++ [(62, .v (.one (.clo 41 [.id 11, .id 12])))]))]) ++ [.raw g oD]) ++ [.raw l' oL] = base41 u g l' oD oL l inp st0 bases s on did := by kernel_rfl
section
variable {w0 : World} {Ok0 : Nat → Prop} {Q : QT}
theorem heldB : ∀ g, Held w0 [] g → g < w0.heap.size := fun _ hg => hg.1
def clo62 : List (Nat × V) := sl11 ++ [(62, .v (.one (.clo 41 [.id 11, .id 12])))]
/-- What a function without results hands back. -/
theorem no_results {a : Act} {w : World} : ∃ v, (results Try.f41 a.tmps).run Try.prog w = .ok v w := by
  have h : (Try.f41.results.toList.mapM (resRun a.tmps)).run Try.prog w = .ok [] w := by
    have e : Try.f41.results.toList = [] := by kernel_rfl
    rw [e]; simp
  exact ⟨_, results_run h⟩
theorem after_good {n : Nat} {w : World} {Ok : Nat → Prop} {β : List Value} {a a2 : Act} {u : List Value} {g l' D : Nat} {oR : Obj} {fno : FuncId} {l : Lad} {inp : List Bool} {st0 : Sta} {fin : Sta × List Bool × Int} {s : Sta} {on : Bool} {did : List Bool} {i : Int} {Qx : Exit → Act → World → Prop}
    (hd : a.defers = []) (hd2 : a2.defers = []) (hu : u = a.tmps.toList)
    (hoR : oR = .loop { state := .ready, pending := none, fn := fno, tmps := u.toArray, params := #[63, 64], assign := as11, body := bd11, defers := D })
    (hf : fin = (s, did, 0))
    (r : Rel (Held w0 []) Ok0 w0 w Ok β (st41 u g l' (.deferred (some [])) oR l inp st0 (basesFrom 0 l.rungs) s on did i) a2.tmps.toList)
    (hN : ∀ (a' : Act) (w' : World) (u : List Value) (g l' : Nat) (oL : Obj) (s : Sta) (on : Bool) (did : List Bool) (Ok : Nat → Prop) (β : List Value), a'.defers = [{ target := .collected g, args := #[] }] → fin = (s, did, 0) →
      Rel (Held w0 []) Ok0 w0 w' Ok β (stp u g l' (.deferred (some [])) oL l inp st0 (basesFrom 0 l.rungs) s on did) a'.tmps.toList → Qx .normal a' w') :
    bodyPost Try.prog Try.f41 (rangePost Fence.wide n Try.prog l' Qx { a with defers := [{ target := .collected g, args := #[] }] ++ a.defers }) .normal a2 w := by
  obtain ⟨v, hv⟩ := no_results (a := a2) (w := w)
  have hw := (r.raw_get (i := 15) (g := l') (o := oR) rfl).1
  have hf13 := r.frame_get (i := 13) (u := u) (cs := spl 88 0 clo62) rfl
  rw [hoR] at hw
  refine ⟨hd2, v, hv, _, _, run_endLoop hw (by simp), ?_⟩
  have r2 := r.withSlots hf13
  rw [st41_heap] at r2
  obtain ⟨oX, hoX⟩ : ∃ oX : Obj, oX = .loop { state := .exhausted, pending := none, fn := fno, tmps := u.toArray, params := #[63, 64], assign := as11, body := bd11, defers := D } := ⟨_, rfl⟩
  have r3 := r2.raw_set heldB (i := 15) (g := l') (o := oR) rfl oX
  rw [raw15_eq] at r3
  subst hu
  have r4 := hN { a with defers := [{ target := .collected g, args := #[] }] ++ a.defers } _ a.tmps.toList g l' oX s on did Ok β (by simp [hd]) hf (by rw [stp_eq]; exact r3)
  rw [hoX] at r4
  exact r4
theorem after_bad {n : Nat} {w : World} {Ok : Nat → Prop} {β : List Value} {a a2 : Act} {u : List Value} {g l' D : Nat} {oDn : Obj} {fno : FuncId} {l : Lad} {inp : List Bool} {st0 : Sta} {fin : Sta × List Bool × Int} {e : Int} {s : Sta} {on : Bool} {did : List Bool} {Qx : Exit → Act → World → Prop}
    (hd : a.defers = []) (hd2 : a2.defers = []) (hu : u = a.tmps.toList)
    (hoDn : oDn = .loop { state := .done, pending := some .ret, fn := fno, tmps := u.toArray, params := #[63, 64], assign := as11, body := bd11, defers := D })
    (hf : fin = (zeroS, [], e))
    (r : Rel (Held w0 []) Ok0 w0 w Ok β (sp 34 [(0, .v (.one (.yld l')))] (hpG l inp st0 [.nils, .nils, .nils] [.nils] [.int .i64 e] (basesFrom 0 l.rungs) s on did ++ mo41 u g l' (.deferred (some [])) oDn l)) a2.tmps.toList)
    (hR : ∀ (a' : Act) (w' : World) (u : List Value) (g l' : Nat) (oL : Obj) (e : Int) (s : Sta) (on : Bool) (did : List Bool) (Ok : Nat → Prop) (β : List Value), a'.defers = [{ target := .collected g, args := #[] }] → fin = (zeroS, [], e) →
      Rel (Held w0 []) Ok0 w0 w' Ok β (sp 88 clo62 (hpG l inp st0 [.nils, .nils, .nils] [.nils] [.int .i64 e] (basesFrom 0 l.rungs) s on did ++ mo41 u g l' (.deferred (some [])) oL l)) a'.tmps.toList → Qx .ret a' w') :
    bodyPost Try.prog Try.f41 (rangePost Fence.wide n Try.prog l' Qx { a with defers := [{ target := .collected g, args := #[] }] ++ a.defers }) .ret a2 w := by
  obtain ⟨v, hv⟩ := no_results (a := a2) (w := w)
  have hw := (r.raw_get (i := 15) (g := l') (o := oDn) rfl).1
  have hf13 := r.frame_get (i := 13) (u := u) (cs := spl 88 0 clo62) rfl
  rw [hoDn] at hw
  refine ⟨hd2, v, hv, _, _, run_endLoop hw (by simp), wpIn_ret ?_⟩
  have r2 := r.withSlots hf13
  obtain ⟨oX, hoX⟩ : ∃ oX : Obj, oX = .loop { state := .exhausted, pending := some .ret, fn := fno, tmps := u.toArray, params := #[63, 64], assign := as11, body := bd11, defers := D } := ⟨_, rfl⟩
  have r3 := r2.raw_set heldB (i := 15) (g := l') (o := oDn) rfl oX
  rw [raw15_sp] at r3
  subst hu
  have r4 := hR { a with defers := [{ target := .collected g, args := #[] }] ++ a.defers } _ a.tmps.toList g l' oX e s on did Ok β (by simp [hd]) hf r3
  rw [hoX] at r4
  exact r4
/-- The loop over the rungs. -/
theorem range_ok {n : Nat} {w : World} {Ok : Nat → Prop} {β : List Value} {a : Act} {l : Lad} {inp : List Bool} {st0 : Sta} {did : List Bool} {fin : Sta × List Bool × Int} {Qx : Exit → Act → World → Prop} (hd : a.defers = [])
    (hv : Valid l) (hs : small st0) (hdid : did.length = l.rungs.length) (hfin : scanGo l inp l.rungs.length 0 st0 did = fin)
    (r : Rel (Held w0 []) Ok0 w0 w Ok β (sp 88 clo62 (hp11 l inp st0 (basesFrom 0 l.rungs) st0 false did ++ [.box 24 (leaves k23 l), .box 64 [.ptr 9 0]])) a.tmps.toList)
    (hN : ∀ (a' : Act) (w' : World) (u : List Value) (g l' : Nat) (oL : Obj) (s : Sta) (on : Bool) (did : List Bool) (Ok : Nat → Prop) (β : List Value), a'.defers = [{ target := .collected g, args := #[] }] → fin = (s, did, 0) →
      Rel (Held w0 []) Ok0 w0 w' Ok β (stp u g l' (.deferred (some [])) oL l inp st0 (basesFrom 0 l.rungs) s on did) a'.tmps.toList → Qx .normal a' w')
    (hR : ∀ (a' : Act) (w' : World) (u : List Value) (g l' : Nat) (oL : Obj) (e : Int) (s : Sta) (on : Bool) (did : List Bool) (Ok : Nat → Prop) (β : List Value), a'.defers = [{ target := .collected g, args := #[] }] → fin = (zeroS, [], e) →
      Rel (Held w0 []) Ok0 w0 w' Ok β (sp 88 clo62 (hpG l inp st0 [.nils, .nils, .nils] [.nils] [.int .i64 e] (basesFrom 0 l.rungs) s on did ++ mo41 u g l' (.deferred (some [])) oL l)) a'.tmps.toList → Qx .ret a' w') :
    (Code.rangeFunc (.tmp 62) #[63, 64] as11 bd11).wpIn Fence.wide n Try.prog Qx a w := by
  refine wpIn_rangeFunc fun fno hfn => ?_
  have h62 : ∃ v, a.tmps.toList[62]? = some v ∧ RelV w Ok β (.v (.one (.clo 41 [.id 11, .id 12]))) v := r.s.s.get rfl
  obtain ⟨v62, e62, vs, hvs, hcs⟩ := h62
  have hev : a.eval (.tmp 62) = .func (.func 41) #[] vs := by
    have h' : a.tmps[62]? = some v62 := by simpa using e62
    show a.tmps.getD 62 undef = _
    simp [h', hvs]
  obtain ⟨oR, hoR⟩ : ∃ oR : Obj, oR = .loop { state := .ready, pending := none, fn := fno, tmps := a.tmps.toList.toArray, params := #[63, 64], assign := as11, body := bd11, defers := w.heap.size } := ⟨_, rfl⟩
  obtain ⟨oDn, hoDn⟩ : ∃ oDn : Obj, oDn = .loop { state := .done, pending := some .ret, fn := fno, tmps := a.tmps.toList.toArray, params := #[63, 64], assign := as11, body := bd11, defers := w.heap.size } := ⟨_, rfl⟩
  have hoR' : oR = .loop { state := .ready, pending := none, fn := fno, tmps := a.tmps, params := #[63, 64], assign := as11, body := bd11, defers := w.heap.size } := by rw [hoR]
  have r0 := ((r.pushFrame heldB).pushRaw heldB (.deferred (some []))).pushRaw heldB oR
  rw [World.size_alloc] at r0
  have r1 : Rel (Held w0 []) Ok0 w0 ((w.alloc (.deferred (some []))).alloc oR) Ok ((β ++ [undef]) ++ [.pointer (some ⟨w.heap.size, 0, none⟩)] ++ [.pointer (some ⟨w.heap.size + 1, 0, none⟩)])
      ⟨spl 88 0 clo62, base41 a.tmps.toList w.heap.size (w.heap.size + 1) (.deferred (some [])) oR l inp st0 (basesFrom 0 l.rungs) st0 false did⟩ a.tmps.toList := by
    rw [← push_eq]
    exact r0
  clear r0
  refine ⟨w.heap.size + 1, [{ target := .collected w.heap.size, args := #[] }], (w.alloc (.deferred (some []))).alloc oR, { target := .fn (.func 41) vs, args := #[.func (.yield (w.heap.size + 1)) #[] #[]] }, (w.alloc (.deferred (some []))).alloc oR, 41,
    #[.func (.yield (w.heap.size + 1)) #[] #[]] ++ vs, (w.alloc (.deferred (some []))).alloc oR, ?_, ?_, fun _ _ => trivial, ?_, fun h => by simp [Fence.wide] at h, ?_⟩
  · rw [hoR']; exact run_enterLoop_outer _ _ _ _ _
  · simp only [resolve, hev]; simp [go_sem]
  · simp [invoke, go_sem, run_callFunc (P := Try.prog) (f := 41) (by kernel_rfl)]
  refine callsIn_of_wp Try.func41 body41 trivial ?_
  have hlen : vs.toList.length = 2 := hcs.length.symm
  have hsz : vs.size = 2 := by simpa using hlen
  have hAll : All2 (RelV ((w.alloc (.deferred (some []))).alloc oR) Ok ((β ++ [undef]) ++ [.pointer (some ⟨w.heap.size, 0, none⟩)] ++ [.pointer (some ⟨w.heap.size + 1, 0, none⟩)]))
      (spl 34 0 [(0, .v (.one (.yld (w.heap.size + 1)))), (1, .v (.one (.ptr 11 0))), (2, .v (.one (.ptr 12 0)))])
      ((#[Value.func (.yield (w.heap.size + 1)) #[] #[]] ++ vs) ++ Array.replicate (Try.f41.ntmps - (#[Value.func (.yield (w.heap.size + 1)) #[] #[]] ++ vs).size) undef).toList := by
    rw [start41, Array.toList_append]
    refine All2.append ?_ (All2.of_get (by simp [hsz, ntmps41]) fun i x y hx _ => ?_)
    · rw [Array.toList_append]
      generalize vs.toList = us at hcs
      match us, hcs with
      | [c1, c2], ⟨h1, h2, _⟩ =>
        obtain ⟨g1, e1, f1⟩ := h1
        obtain ⟨g2, e2, f2⟩ := h2
        exact ⟨rfl, ⟨g1, get_append_some (get_append_some (get_append_some e1)), f1⟩, ⟨g2, get_append_some (get_append_some (get_append_some e2)), f2⟩, trivial⟩
    · have : x = .v (.one .undef) := by
        obtain ⟨_, hx⟩ := List.getElem?_eq_some_iff.1 hx
        rw [← hx]; exact List.getElem_replicate _
      rw [this]; trivial
  have r2 := r1.withSlots hAll
  rw [c41_eq]
  have hS := kc (start41_eq (fun ex s => ex = .normal ∧ s = st41 a.tmps.toList w.heap.size (w.heap.size + 1) (.deferred (some [])) oR l inp st0 (basesFrom 0 l.rungs) st0 false did 0) a.tmps.toList w.heap.size (w.heap.size + 1) (.deferred (some [])) oR l inp st0 (basesFrom 0 l.rungs) st0 false did) ⟨rfl, rfl⟩
  have hq1 : (Code.a c41).wpIn Fence.wide (n - 1) Try.prog (PostX [] (Held w0 []) Ok0 w0 fun ex s => ex = .normal ∧ s = st41 a.tmps.toList w.heap.size (w.heap.size + 1) (.deferred (some [])) oR l inp st0 (basesFrom 0 l.rungs) st0 false did 0)
      { tmps := (#[Value.func (.yield (w.heap.size + 1)) #[] #[]] ++ vs) ++ Array.replicate (Try.f41.ntmps - (#[Value.func (.yield (w.heap.size + 1)) #[] #[]] ++ vs).size) undef, defers := [] } ((w.alloc (.deferred (some []))).alloc oR) :=
    wpIn_wide.2 (awp_sound tt_ok env41 mixed heldB (Code.a c41) 0 rfl r2 hS)
  refine wpIn_seq (wpIn_mono hq1 fun e a1 w1 hq => ?_)
  cases e with
  | normal =>
    obtain ⟨hd1, s1, Ok1, β1, ⟨_, rfl⟩, r3⟩ := hq
    refine wpIn_block (wpIn_mono (iter_loop heldB hv hoR hoDn hd1 hs hdid hfin r3) fun e a2 w2 hq => ?_)
    cases e with
    | exit k =>
      match k, hq with
      | 0, ⟨hd2, s, on, did2, i, Ok2, β2, hf, r4⟩ =>
        exact after_good hd hd2 rfl hoR hf r4 hN
    | ret =>
      obtain ⟨hd2, e, s, on, did2, Ok2, β2, hf, r4⟩ := hq
      exact after_bad hd hd2 rfl hoDn hf r4 hR
    | _ => exact hq.elim
  | _ => first | exact hq.elim | (obtain ⟨_, _, _, _, ⟨h, _⟩, _⟩ := hq; cases h)
theorem inl26_self (u : List Value) (l : Lad) (inp : List Bool) (st0 : Sta) (bases : List Int) (s : Sta) (did : List Bool) :
    Inl26 (fun res h' => res = [.one (.clo 41 [.id 12, .id 13])] ∧ h' = hp11 l inp st0 bases s false did ++ [.frame u (spl 88 0 (sl11 ++ [(61, .v (nfK k23 l))]))] ++ [.box 24 (leaves k23 l), .box 64 [.ptr 9 0]]) u l inp st0 bases s did ∧ True := by
  rw [← inl26_eq]
  exact ⟨⟨rfl, rfl⟩, trivial⟩
theorem post11_self (u : List Value) (g l' : Nat) (oD oL : Obj) (l : Lad) (inp : List Bool) (st0 : Sta) (bases : List Int) (s : Sta) (on : Bool) (did : List Bool) :
    Post11 (fun ex s' => ex = .ret ∧ s' = sp 88 sk11 (hpG l inp st0 (leaves k26 s) [.own 10] [.int .i64 0] bases s on did ++ mo41 u g l' oD oL l)) u g l' oD oL l inp st0 bases s on did ∧ True := by
  rw [← post11_eq]
  exact ⟨⟨⟨rfl, rfl⟩, rfl, rfl⟩, trivial⟩
set_option maxRecDepth 100000 in
/-- The scan behind its checks. -/
theorem main11 {n : Nat} {w : World} {Ok : Nat → Prop} {β : List Value} {a : Act} {l : Lad} {inp : List Bool} {st : Sta} (hd : a.defers = []) (hs : small st) (hc : (checkL l).2 = 0)
    (hsc : scanL l inp st = scanGo l inp l.rungs.length 0 st (List.replicate l.rungs.length false))
    (hq : Q [nfK k26 (scanL l inp st).1, .one (.sl 4 .bool (scanL l inp st).2.1), .one (.int .i64 (scanL l inp st).2.2)] [])
    (r : Rel (Held w0 []) Ok0 w0 w Ok β (sp 88 sl11 (hp11 l inp st (basesFrom 0 l.rungs) st false (List.replicate l.rungs.length false))) a.tmps.toList) :
    z11.wpIn Fence.wide n Try.prog (bodyPostM Fence.wide n Try.prog Try.f11 (R11 w0 Ok0 Q)) a w := by
  rw [z11_eq]
  refine wpIn_seq (wpIn_seq ?_)
  rw [r10_eq]
  refine wpIn_region_list ?_
  rw [ops10_eq]
  refine opsK_then tt_ok env11 heldB (ops10.toList.take 1) hd r (kc (load61_eq (fun s => s = sp 88 (sl11 ++ [(61, .v (nfK k23 l))]) (hp11 l inp st (basesFrom 0 l.rungs) st false (List.replicate l.rungs.length false))) l inp st (basesFrom 0 l.rungs) st false (List.replicate l.rungs.length false)) rfl) ?_
  rintro a1 w1 ⟨hd1, s1, Ok1, β1, rfl, r1⟩
  refine wpListIn_plain o62_guard fun K hK => ⟨fun _ _ => trivial, ?_⟩
  have h61 : ∃ v, a1.tmps.toList[61]? = some v ∧ RelV w1 Ok1 β1 (.v (nfK k23 l)) v := r1.s.s.get rfl
  have h14 : ∃ v, a1.tmps.toList[14]? = some v ∧ RelV w1 Ok1 β1 (.v (.one (.ptr 9 0))) v := r1.s.s.get rfl
  obtain ⟨v61, e61, r61⟩ := h61
  obtain ⟨v14, e14, r14⟩ := h14
  have ev : ∀ t v, a1.tmps.toList[t]? = some v → a1.eval (.tmp t) = v := fun t v h => by
    have h' : a1.tmps[t]? = some v := by simpa using h
    show a1.tmps.getD t undef = v
    simp [h']
  have e26 : a1.eval (.func 26) = .func (.func 26) #[] #[] := rfl
  have hsem : o62.semAt Fence.wide.round a1.eval = execOp a1.eval o62 := by simp [Fence.wide, Oper.semAt]
  have hrun : (execOp a1.eval o62).run Try.prog w1 = .ok (.enter 26 [v61, v14].toArray) w1 := by
    simp [execOp, o62_op, resolve, call62_callee, call62_args, ev 61 v61 e61, ev 14 v14 e14, e26, Deferred.ofValue, invoke, run_callFunc (P := Try.prog) (f := 26) (by kernel_rfl)]
  rw [hsem, hrun]
  obtain ⟨hI, -⟩ := inl26_self a1.tmps.toList l inp st (basesFrom 0 l.rungs) st (List.replicate l.rungs.length false)
  refine ⟨fun h => by simp [Fence.wide] at h, calls_wide (Calls.mono (inline_calls r1 heldB spec26 (xs := [nfK k23 l, .one (.ptr 9 0)]) (vals := [v61, v14]) ⟨r61, r14, trivial⟩ (by assumption)) fun e w2 he => ?_)⟩
  obtain ⟨v, rfl, res, h', Ok2, β2, ⟨rfl, rfl⟩, hret, r2⟩ := he
  refine hK _ _ (wpListIn_nil ?_)
  have hf := r2.frame_get (i := 11) (u := a1.tmps.toList) (cs := spl 88 0 (sl11 ++ [(61, .v (nfK k23 l))])) rfl
  have r3 := (r2.withSlots hf).put (a := a1) o62.dst (av := .v (.one (.clo 41 [.id 12, .id 13]))) (v := v) hret
  rw [o62_dst] at r3
  obtain ⟨s4, β4, rfl, r4⟩ := dropK_sound r3 (kc (mid62_eq (fun s => s = sp 88 clo62 (hp11 l inp st (basesFrom 0 l.rungs) st false (List.replicate l.rungs.length false) ++ [.box 24 (leaves k23 l), .box 64 [.ptr 9 0]])) a1.tmps.toList l inp st (basesFrom 0 l.rungs) st false (List.replicate l.rungs.length false)) rfl)
  refine wpIn_block (range_ok (by rw [put_defers]; exact hd1) (valid_of hc) hs (by simp) hsc.symm (by rw [o62_dst]; exact r4) ?_ ?_)
  · intro a5 w5 u g l' oL s on did Ok5 β5 hd5 hf5 r5
    rw [hf5] at hq
    obtain ⟨hX, -⟩ := post11_self u g l' (.deferred (some [])) oL l inp st (basesFrom 0 l.rungs) s on did
    unfold Post11 at hX
    refine wpIn_mono (wpIn_wide.2 (awp_sound tt_ok env11 mixed heldB post11 0 hd5 r5 (by assumption))) fun e a6 w6 h6 => ?_
    cases e with
    | ret =>
      obtain ⟨hd6, s6, Ok6, β6, h6, r6⟩ := h6
      obtain ⟨s7, β7, ⟨_, rfl⟩, r7⟩ := dropK_sound r6 h6
      exact fin_leave hd6 r7 (kc (res_good Q u g l' (.deferred none) oL l inp st (basesFrom 0 l.rungs) s on did) hq)
    | _ => first | exact h6.elim | (obtain ⟨_, _, _, _, h6, _⟩ := h6; exact h6.elim)
  · intro a5 w5 u g l' oL e s on did Ok5 β5 hd5 hf5 r5
    rw [hf5] at hq
    exact fin_leave hd5 r5 (kc (res_bad2 Q u g l' (.deferred none) oL l inp st e (basesFrom 0 l.rungs) s on did) hq)
/-- The scan's way out ahead of the loop. -/
def Q11 (l : Lad) (inp : List Bool) (st : Sta) : Ex → St → Prop := fun ex s => match ex with
  | .normal => (checkL l).2 = 0 ∧ scanL l inp st = scanGo l inp l.rungs.length 0 st (List.replicate l.rungs.length false) ∧ s = sp 88 sl11 (hp11 l inp st (basesFrom 0 l.rungs) st false (List.replicate l.rungs.length false))
  | .ret => ∃ e, s = sr11 e ∧ scanL l inp st = (zeroS, [], e)
  | _ => False
theorem pre_ok (l : Lad) (inp : List Bool) (st : Sta) (hs : small st) : Pre11 (Q11 l inp st) l inp st ∧ True := by
  refine ⟨?_, trivial⟩
  rw [← pre11_eq]
  refine (brP_intro (fun c => ?_) (fun c => ⟨(valid_of (by simpa using c)).wide, ?_⟩))
  · exact ⟨_, rfl, by simp [scanL, c]⟩
  · have hc : (checkL l).2 = 0 := by simpa using c
    have hl := (valid_of hc).len
    have hsz : sizeE l = (l.1, l.2.1, l.2.2.1, getE (.int .i64) (basesFrom 0 l.rungs) (l.rungs.length : Int)) := by unfold sizeE; rfl
    refine brP_intro (fun d => ?_) (fun d => ⟨⟨by omega, by rw [basesFrom_len]; omega⟩, ?_⟩)
    · have d' : ¬ (inp.length : Int) = l.1 := by simpa using d
      exact ⟨_, rfl, by simp [scanL, hc, d']⟩
    · have d' : (inp.length : Int) = l.1 := by simpa using d
      refine brP_intro (fun f => ?_) (fun f => ⟨hs, ⟨by omega, by omega, by omega⟩, ?_, ?_⟩)
      · have f' : fits (sizeE l) st = false := by rw [hsz]; simpa using f
        exact ⟨_, rfl, by simp [scanL, hc, f']⟩
      · rw [Int.toNat_natCast]; exact room4 (by omega)
      · have f' : fits (sizeE l) st = true := by rw [hsz]; simpa using f
        refine ⟨hc, by simp [scanL, hc, d', f'], ?_⟩
        rw [Int.toNat_natCast]; rfl
set_option maxRecDepth 100000 in
theorem spec_p11 : SpecOk Try.prog 11 p11 := by
  rintro args h K ⟨rfl, l, inp, st, Q, rfl, rfl, hs, hq⟩ w0 Ok0 β0 vals hargs hH
  have hb : β0 = [] := List.eq_nil_of_length_eq_zero hH.objs.length.symm
  subst hb
  have hlen := hargs.length
  refine (callsIn_wide (n := 0)).1 (callsIn_of_wp_marks Try.func11 body11 trivial ?_)
  have r : Rel (Held w0 []) Ok0 w0 w0 Ok0 [] (st11 l inp st) (vals.toArray ++ Array.replicate (Try.f11.ntmps - vals.toArray.size) undef).toList := by
    rw [← start11]
    refine ⟨⟨hH, ?_⟩, ⟨rfl, rfl, rfl, Nat.le_refl _, fun _ _ => rfl⟩, fun v g hv => by simp at hv, fun g hg => .inl hg, fun g hg => hg⟩
    rw [Array.toList_append]
    refine All2.append (All2.map _ hargs) (All2.of_get (by simp [← hlen, ntmps11]) fun i x y hx _ => ?_)
    have : x = .v (.one .undef) := by
      obtain ⟨_, hx⟩ := List.getElem?_eq_some_iff.1 hx
      rw [← hx]; exact List.getElem_replicate _
    rw [this]; trivial
  obtain ⟨hP, -⟩ := pre_ok l inp st hs
  unfold Pre11 at hP
  rw [c11_eq]
  refine awpL_sound (ds := []) tt_ok env11 mixed heldB 0 (fun a w hx => ?_) (fun e a w he hx => ?_) pre11 rfl r (by assumption)
  · obtain ⟨hd, s1, Ok1, β1, hx, r1⟩ := hx
    obtain ⟨s2, β2, ⟨hc, hsc, rfl⟩, r2⟩ := normK_sound r1 hx
    exact main11 hd hs hc hsc hq r2
  · cases e with
    | ret =>
      obtain ⟨hd, s1, Ok1, β1, hx, r1⟩ := hx
      obtain ⟨s2, β2, ⟨e, rfl, hsc⟩, r2⟩ := normK_sound r1 hx
      show LeavesInM Fence.wide 0 Try.prog Try.f11 a.tmps (R11 w0 Ok0 Q) a.defers .returning w
      rw [hd]
      rw [hsc] at hq
      exact fin_ret r2 (kc (res_bad Q e) hq)
    | normal => exact absurd rfl he
    | exit _ => obtain ⟨_, _, _, _, hq, _⟩ := hx; exact hq.elim
    | _ => exact hx.elim
end
theorem spec11 : SpecOk Try.prog 11 sp11 := by
  refine (spec_p11.sealing ks11).data fun args hp Q hq => ?_
  unfold sp11 S3 at hq
  split at hq
  · obtain ⟨x, hx, hq⟩ := dK_iff hq
    obtain ⟨y, hy, hq⟩ := dK_iff hq
    obtain ⟨z, hz, hq⟩ := dK_iff hq
    exact ⟨rfl, [⟨k23, x⟩, ⟨kbs, y⟩, ⟨k26, z⟩], ⟨hx, hy, hz, trivial⟩, rfl, rfl, x, y, z, Q, rfl, rfl, hq⟩
  · exact hq.elim
end Go.AM
namespace Go.AM
open Go.Proofs
-- f9 "busbar/busbarlaw20.alive" [] -> ['4']
def A9 : Ann := []
def E9 : Env := [(11, sp11), (14, sp14), (22, sp22)]
def I9 : List V1 := []
def t9 (Q : List V1 → List Ob → Prop) : Prop :=
  (((((0 : Int) ≤ (2 : Int) ∧ (2 : Int) ≤ (2 : Int) ∧ (2 : Int) ≤ (17592186044416 : Int)) ∧ room tt (4 : TypeId) (Int.toNat (2 : Int)) ∧ (small (List.replicate (Int.toNat (2 : Int)) (K.dflt K.bool), [], []) ∧ List.length (scanL exampleL (List.set (List.replicate (1 : Nat) (K.dflt K.bool)) (0 : Nat) true) (List.replicate (Int.toNat (2 : Int)) (K.dflt K.bool), [], [])).snd.fst ≤ (4611686018427387904 : Nat) ∧ List.length (scanL exampleL (List.set (List.replicate (1 : Nat) (K.dflt K.bool)) (0 : Nat) true) (List.replicate (Int.toNat (2 : Int)) (K.dflt K.bool), [], [])).fst.fst ≤ (4611686018427387904 : Nat) ∧ Q [V1.one (Lf.bool (decide ((scanL exampleL (List.set (List.replicate (1 : Nat) (K.dflt K.bool)) (0 : Nat) true) (List.replicate (Int.toNat (2 : Int)) (K.dflt K.bool), [], [])).fst.fst = List.set (List.set (List.replicate (2 : Nat) (K.dflt K.bool)) (0 : Nat) false) (1 : Nat) true)))] []) ∧ small (List.replicate (Int.toNat (2 : Int)) (K.dflt K.bool), [], []) ∧ List.length (scanL exampleL (List.set (List.replicate (1 : Nat) (K.dflt K.bool)) (0 : Nat) true) (List.replicate (Int.toNat (2 : Int)) (K.dflt K.bool), [], [])).snd.fst ≤ (4611686018427387904 : Nat) ∧ List.length (scanL exampleL (List.set (List.replicate (1 : Nat) (K.dflt K.bool)) (0 : Nat) true) (List.replicate (Int.toNat (2 : Int)) (K.dflt K.bool), [], [])).fst.fst ≤ (4611686018427387904 : Nat) ∧ Q [V1.one (Lf.bool (decide ((scanL exampleL (List.set (List.replicate (1 : Nat) (K.dflt K.bool)) (0 : Nat) true) (List.replicate (Int.toNat (2 : Int)) (K.dflt K.bool), [], [])).fst.fst = List.set (List.set (List.replicate (2 : Nat) (K.dflt K.bool)) (0 : Nat) false) (1 : Nat) true)))] []) ∧ ((0 : Int) ≤ (2 : Int) ∧ (2 : Int) ≤ (2 : Int) ∧ (2 : Int) ≤ (17592186044416 : Int)) ∧ room tt (4 : TypeId) (Int.toNat (2 : Int)) ∧ small (List.replicate (Int.toNat (2 : Int)) (K.dflt K.bool), [], []) ∧ List.length (scanL exampleL (List.set (List.replicate (1 : Nat) (K.dflt K.bool)) (0 : Nat) true) (List.replicate (Int.toNat (2 : Int)) (K.dflt K.bool), [], [])).snd.fst ≤ (4611686018427387904 : Nat) ∧ List.length (scanL exampleL (List.set (List.replicate (1 : Nat) (K.dflt K.bool)) (0 : Nat) true) (List.replicate (Int.toNat (2 : Int)) (K.dflt K.bool), [], [])).fst.fst ≤ (4611686018427387904 : Nat) ∧ Q [V1.one (Lf.bool (decide ((scanL exampleL (List.set (List.replicate (1 : Nat) (K.dflt K.bool)) (0 : Nat) true) (List.replicate (Int.toNat (2 : Int)) (K.dflt K.bool), [], [])).fst.fst = List.set (List.set (List.replicate (2 : Nat) (K.dflt K.bool)) (0 : Nat) false) (1 : Nat) true)))] []) ∧ (((0 : Int) ≤ (2 : Int) ∧ (2 : Int) ≤ (2 : Int) ∧ (2 : Int) ≤ (17592186044416 : Int)) ∧ room tt (4 : TypeId) (Int.toNat (2 : Int)) ∧ ((small (List.replicate (Int.toNat (2 : Int)) (K.dflt K.bool), [], []) ∧ List.length (scanL exampleL (List.set (List.replicate (1 : Nat) (K.dflt K.bool)) (0 : Nat) true) (List.replicate (Int.toNat (2 : Int)) (K.dflt K.bool), [], [])).snd.fst ≤ (4611686018427387904 : Nat) ∧ List.length (scanL exampleL (List.set (List.replicate (1 : Nat) (K.dflt K.bool)) (0 : Nat) true) (List.replicate (Int.toNat (2 : Int)) (K.dflt K.bool), [], [])).fst.fst ≤ (4611686018427387904 : Nat) ∧ Q [V1.one (Lf.bool (decide ((scanL exampleL (List.set (List.replicate (1 : Nat) (K.dflt K.bool)) (0 : Nat) true) (List.replicate (Int.toNat (2 : Int)) (K.dflt K.bool), [], [])).fst.fst = List.set (List.set (List.replicate (2 : Nat) (K.dflt K.bool)) (0 : Nat) false) (1 : Nat) true)))] []) ∧ small (List.replicate (Int.toNat (2 : Int)) (K.dflt K.bool), [], []) ∧ List.length (scanL exampleL (List.set (List.replicate (1 : Nat) (K.dflt K.bool)) (0 : Nat) true) (List.replicate (Int.toNat (2 : Int)) (K.dflt K.bool), [], [])).snd.fst ≤ (4611686018427387904 : Nat) ∧ List.length (scanL exampleL (List.set (List.replicate (1 : Nat) (K.dflt K.bool)) (0 : Nat) true) (List.replicate (Int.toNat (2 : Int)) (K.dflt K.bool), [], [])).fst.fst ≤ (4611686018427387904 : Nat) ∧ Q [V1.one (Lf.bool (decide ((scanL exampleL (List.set (List.replicate (1 : Nat) (K.dflt K.bool)) (0 : Nat) true) (List.replicate (Int.toNat (2 : Int)) (K.dflt K.bool), [], [])).fst.fst = List.set (List.set (List.replicate (2 : Nat) (K.dflt K.bool)) (0 : Nat) false) (1 : Nat) true)))] []) ∧ small (List.replicate (Int.toNat (2 : Int)) (K.dflt K.bool), [], []) ∧ List.length (scanL exampleL (List.set (List.replicate (1 : Nat) (K.dflt K.bool)) (0 : Nat) true) (List.replicate (Int.toNat (2 : Int)) (K.dflt K.bool), [], [])).snd.fst ≤ (4611686018427387904 : Nat) ∧ List.length (scanL exampleL (List.set (List.replicate (1 : Nat) (K.dflt K.bool)) (0 : Nat) true) (List.replicate (Int.toNat (2 : Int)) (K.dflt K.bool), [], [])).fst.fst ≤ (4611686018427387904 : Nat) ∧ Q [V1.one (Lf.bool (decide ((scanL exampleL (List.set (List.replicate (1 : Nat) (K.dflt K.bool)) (0 : Nat) true) (List.replicate (Int.toNat (2 : Int)) (K.dflt K.bool), [], [])).fst.fst = List.set (List.set (List.replicate (2 : Nat) (K.dflt K.bool)) (0 : Nat) false) (1 : Nat) true)))] []) ∧ (((0 : Int) ≤ (2 : Int) ∧ (2 : Int) ≤ (2 : Int) ∧ (2 : Int) ≤ (17592186044416 : Int)) ∧ room tt (4 : TypeId) (Int.toNat (2 : Int)) ∧ small (List.replicate (Int.toNat (2 : Int)) (K.dflt K.bool), [], []) ∧ List.length (scanL exampleL (List.set (List.replicate (1 : Nat) (K.dflt K.bool)) (0 : Nat) true) (List.replicate (Int.toNat (2 : Int)) (K.dflt K.bool), [], [])).snd.fst ≤ (4611686018427387904 : Nat) ∧ List.length (scanL exampleL (List.set (List.replicate (1 : Nat) (K.dflt K.bool)) (0 : Nat) true) (List.replicate (Int.toNat (2 : Int)) (K.dflt K.bool), [], [])).fst.fst ≤ (4611686018427387904 : Nat) ∧ Q [V1.one (Lf.bool (decide ((scanL exampleL (List.set (List.replicate (1 : Nat) (K.dflt K.bool)) (0 : Nat) true) (List.replicate (Int.toNat (2 : Int)) (K.dflt K.bool), [], [])).fst.fst = List.set (List.set (List.replicate (2 : Nat) (K.dflt K.bool)) (0 : Nat) false) (1 : Nat) true)))] []) ∧ ((0 : Int) ≤ (2 : Int) ∧ (2 : Int) ≤ (2 : Int) ∧ (2 : Int) ≤ (17592186044416 : Int)) ∧ room tt (4 : TypeId) (Int.toNat (2 : Int)) ∧ small (List.replicate (Int.toNat (2 : Int)) (K.dflt K.bool), [], []) ∧ List.length (scanL exampleL (List.set (List.replicate (1 : Nat) (K.dflt K.bool)) (0 : Nat) true) (List.replicate (Int.toNat (2 : Int)) (K.dflt K.bool), [], [])).snd.fst ≤ (4611686018427387904 : Nat) ∧ List.length (scanL exampleL (List.set (List.replicate (1 : Nat) (K.dflt K.bool)) (0 : Nat) true) (List.replicate (Int.toNat (2 : Int)) (K.dflt K.bool), [], [])).fst.fst ≤ (4611686018427387904 : Nat) ∧ Q [V1.one (Lf.bool (decide ((scanL exampleL (List.set (List.replicate (1 : Nat) (K.dflt K.bool)) (0 : Nat) true) (List.replicate (Int.toNat (2 : Int)) (K.dflt K.bool), [], [])).fst.fst = List.set (List.set (List.replicate (2 : Nat) (K.dflt K.bool)) (0 : Nat) false) (1 : Nat) true)))] []) ∧ (((((0 : Int) ≤ (2 : Int) ∧ (2 : Int) ≤ (2 : Int) ∧ (2 : Int) ≤ (17592186044416 : Int)) ∧ room tt (4 : TypeId) (Int.toNat (2 : Int)) ∧ (small (List.replicate (Int.toNat (2 : Int)) (K.dflt K.bool), [], []) ∧ List.length (scanL exampleL (List.set (List.replicate (1 : Nat) (K.dflt K.bool)) (0 : Nat) true) (List.replicate (Int.toNat (2 : Int)) (K.dflt K.bool), [], [])).snd.fst ≤ (4611686018427387904 : Nat) ∧ List.length (scanL exampleL (List.set (List.replicate (1 : Nat) (K.dflt K.bool)) (0 : Nat) true) (List.replicate (Int.toNat (2 : Int)) (K.dflt K.bool), [], [])).fst.fst ≤ (4611686018427387904 : Nat) ∧ Q [V1.one (Lf.bool (decide ((scanL exampleL (List.set (List.replicate (1 : Nat) (K.dflt K.bool)) (0 : Nat) true) (List.replicate (Int.toNat (2 : Int)) (K.dflt K.bool), [], [])).fst.fst = List.set (List.set (List.replicate (2 : Nat) (K.dflt K.bool)) (0 : Nat) false) (1 : Nat) true)))] []) ∧ small (List.replicate (Int.toNat (2 : Int)) (K.dflt K.bool), [], []) ∧ List.length (scanL exampleL (List.set (List.replicate (1 : Nat) (K.dflt K.bool)) (0 : Nat) true) (List.replicate (Int.toNat (2 : Int)) (K.dflt K.bool), [], [])).snd.fst ≤ (4611686018427387904 : Nat) ∧ List.length (scanL exampleL (List.set (List.replicate (1 : Nat) (K.dflt K.bool)) (0 : Nat) true) (List.replicate (Int.toNat (2 : Int)) (K.dflt K.bool), [], [])).fst.fst ≤ (4611686018427387904 : Nat) ∧ Q [V1.one (Lf.bool (decide ((scanL exampleL (List.set (List.replicate (1 : Nat) (K.dflt K.bool)) (0 : Nat) true) (List.replicate (Int.toNat (2 : Int)) (K.dflt K.bool), [], [])).fst.fst = List.set (List.set (List.replicate (2 : Nat) (K.dflt K.bool)) (0 : Nat) false) (1 : Nat) true)))] []) ∧ ((0 : Int) ≤ (2 : Int) ∧ (2 : Int) ≤ (2 : Int) ∧ (2 : Int) ≤ (17592186044416 : Int)) ∧ room tt (4 : TypeId) (Int.toNat (2 : Int)) ∧ small (List.replicate (Int.toNat (2 : Int)) (K.dflt K.bool), [], []) ∧ List.length (scanL exampleL (List.set (List.replicate (1 : Nat) (K.dflt K.bool)) (0 : Nat) true) (List.replicate (Int.toNat (2 : Int)) (K.dflt K.bool), [], [])).snd.fst ≤ (4611686018427387904 : Nat) ∧ List.length (scanL exampleL (List.set (List.replicate (1 : Nat) (K.dflt K.bool)) (0 : Nat) true) (List.replicate (Int.toNat (2 : Int)) (K.dflt K.bool), [], [])).fst.fst ≤ (4611686018427387904 : Nat) ∧ Q [V1.one (Lf.bool (decide ((scanL exampleL (List.set (List.replicate (1 : Nat) (K.dflt K.bool)) (0 : Nat) true) (List.replicate (Int.toNat (2 : Int)) (K.dflt K.bool), [], [])).fst.fst = List.set (List.set (List.replicate (2 : Nat) (K.dflt K.bool)) (0 : Nat) false) (1 : Nat) true)))] []) ∧ (((0 : Int) ≤ (2 : Int) ∧ (2 : Int) ≤ (2 : Int) ∧ (2 : Int) ≤ (17592186044416 : Int)) ∧ room tt (4 : TypeId) (Int.toNat (2 : Int)) ∧ ((small (List.replicate (Int.toNat (2 : Int)) (K.dflt K.bool), [], []) ∧ List.length (scanL exampleL (List.set (List.replicate (1 : Nat) (K.dflt K.bool)) (0 : Nat) true) (List.replicate (Int.toNat (2 : Int)) (K.dflt K.bool), [], [])).snd.fst ≤ (4611686018427387904 : Nat) ∧ List.length (scanL exampleL (List.set (List.replicate (1 : Nat) (K.dflt K.bool)) (0 : Nat) true) (List.replicate (Int.toNat (2 : Int)) (K.dflt K.bool), [], [])).fst.fst ≤ (4611686018427387904 : Nat) ∧ Q [V1.one (Lf.bool (decide ((scanL exampleL (List.set (List.replicate (1 : Nat) (K.dflt K.bool)) (0 : Nat) true) (List.replicate (Int.toNat (2 : Int)) (K.dflt K.bool), [], [])).fst.fst = List.set (List.set (List.replicate (2 : Nat) (K.dflt K.bool)) (0 : Nat) false) (1 : Nat) true)))] []) ∧ small (List.replicate (Int.toNat (2 : Int)) (K.dflt K.bool), [], []) ∧ List.length (scanL exampleL (List.set (List.replicate (1 : Nat) (K.dflt K.bool)) (0 : Nat) true) (List.replicate (Int.toNat (2 : Int)) (K.dflt K.bool), [], [])).snd.fst ≤ (4611686018427387904 : Nat) ∧ List.length (scanL exampleL (List.set (List.replicate (1 : Nat) (K.dflt K.bool)) (0 : Nat) true) (List.replicate (Int.toNat (2 : Int)) (K.dflt K.bool), [], [])).fst.fst ≤ (4611686018427387904 : Nat) ∧ Q [V1.one (Lf.bool (decide ((scanL exampleL (List.set (List.replicate (1 : Nat) (K.dflt K.bool)) (0 : Nat) true) (List.replicate (Int.toNat (2 : Int)) (K.dflt K.bool), [], [])).fst.fst = List.set (List.set (List.replicate (2 : Nat) (K.dflt K.bool)) (0 : Nat) false) (1 : Nat) true)))] []) ∧ small (List.replicate (Int.toNat (2 : Int)) (K.dflt K.bool), [], []) ∧ List.length (scanL exampleL (List.set (List.replicate (1 : Nat) (K.dflt K.bool)) (0 : Nat) true) (List.replicate (Int.toNat (2 : Int)) (K.dflt K.bool), [], [])).snd.fst ≤ (4611686018427387904 : Nat) ∧ List.length (scanL exampleL (List.set (List.replicate (1 : Nat) (K.dflt K.bool)) (0 : Nat) true) (List.replicate (Int.toNat (2 : Int)) (K.dflt K.bool), [], [])).fst.fst ≤ (4611686018427387904 : Nat) ∧ Q [V1.one (Lf.bool (decide ((scanL exampleL (List.set (List.replicate (1 : Nat) (K.dflt K.bool)) (0 : Nat) true) (List.replicate (Int.toNat (2 : Int)) (K.dflt K.bool), [], [])).fst.fst = List.set (List.set (List.replicate (2 : Nat) (K.dflt K.bool)) (0 : Nat) false) (1 : Nat) true)))] []) ∧ (((0 : Int) ≤ (2 : Int) ∧ (2 : Int) ≤ (2 : Int) ∧ (2 : Int) ≤ (17592186044416 : Int)) ∧ room tt (4 : TypeId) (Int.toNat (2 : Int)) ∧ small (List.replicate (Int.toNat (2 : Int)) (K.dflt K.bool), [], []) ∧ List.length (scanL exampleL (List.set (List.replicate (1 : Nat) (K.dflt K.bool)) (0 : Nat) true) (List.replicate (Int.toNat (2 : Int)) (K.dflt K.bool), [], [])).snd.fst ≤ (4611686018427387904 : Nat) ∧ List.length (scanL exampleL (List.set (List.replicate (1 : Nat) (K.dflt K.bool)) (0 : Nat) true) (List.replicate (Int.toNat (2 : Int)) (K.dflt K.bool), [], [])).fst.fst ≤ (4611686018427387904 : Nat) ∧ Q [V1.one (Lf.bool (decide ((scanL exampleL (List.set (List.replicate (1 : Nat) (K.dflt K.bool)) (0 : Nat) true) (List.replicate (Int.toNat (2 : Int)) (K.dflt K.bool), [], [])).fst.fst = List.set (List.set (List.replicate (2 : Nat) (K.dflt K.bool)) (0 : Nat) false) (1 : Nat) true)))] []) ∧ ((0 : Int) ≤ (2 : Int) ∧ (2 : Int) ≤ (2 : Int) ∧ (2 : Int) ≤ (17592186044416 : Int)) ∧ room tt (4 : TypeId) (Int.toNat (2 : Int)) ∧ small (List.replicate (Int.toNat (2 : Int)) (K.dflt K.bool), [], []) ∧ List.length (scanL exampleL (List.set (List.replicate (1 : Nat) (K.dflt K.bool)) (0 : Nat) true) (List.replicate (Int.toNat (2 : Int)) (K.dflt K.bool), [], [])).snd.fst ≤ (4611686018427387904 : Nat) ∧ List.length (scanL exampleL (List.set (List.replicate (1 : Nat) (K.dflt K.bool)) (0 : Nat) true) (List.replicate (Int.toNat (2 : Int)) (K.dflt K.bool), [], [])).fst.fst ≤ (4611686018427387904 : Nat) ∧ Q [V1.one (Lf.bool (decide ((scanL exampleL (List.set (List.replicate (1 : Nat) (K.dflt K.bool)) (0 : Nat) true) (List.replicate (Int.toNat (2 : Int)) (K.dflt K.bool), [], [])).fst.fst = List.set (List.set (List.replicate (2 : Nat) (K.dflt K.bool)) (0 : Nat) false) (1 : Nat) true)))] []) ∧ (((0 : Int) ≤ (2 : Int) ∧ (2 : Int) ≤ (2 : Int) ∧ (2 : Int) ≤ (17592186044416 : Int)) ∧ room tt (4 : TypeId) (Int.toNat (2 : Int)) ∧ (((small (List.replicate (Int.toNat (2 : Int)) (K.dflt K.bool), [], []) ∧ List.length (scanL exampleL (List.set (List.replicate (1 : Nat) (K.dflt K.bool)) (0 : Nat) true) (List.replicate (Int.toNat (2 : Int)) (K.dflt K.bool), [], [])).snd.fst ≤ (4611686018427387904 : Nat) ∧ List.length (scanL exampleL (List.set (List.replicate (1 : Nat) (K.dflt K.bool)) (0 : Nat) true) (List.replicate (Int.toNat (2 : Int)) (K.dflt K.bool), [], [])).fst.fst ≤ (4611686018427387904 : Nat) ∧ Q [V1.one (Lf.bool (decide ((scanL exampleL (List.set (List.replicate (1 : Nat) (K.dflt K.bool)) (0 : Nat) true) (List.replicate (Int.toNat (2 : Int)) (K.dflt K.bool), [], [])).fst.fst = List.set (List.set (List.replicate (2 : Nat) (K.dflt K.bool)) (0 : Nat) false) (1 : Nat) true)))] []) ∧ small (List.replicate (Int.toNat (2 : Int)) (K.dflt K.bool), [], []) ∧ List.length (scanL exampleL (List.set (List.replicate (1 : Nat) (K.dflt K.bool)) (0 : Nat) true) (List.replicate (Int.toNat (2 : Int)) (K.dflt K.bool), [], [])).snd.fst ≤ (4611686018427387904 : Nat) ∧ List.length (scanL exampleL (List.set (List.replicate (1 : Nat) (K.dflt K.bool)) (0 : Nat) true) (List.replicate (Int.toNat (2 : Int)) (K.dflt K.bool), [], [])).fst.fst ≤ (4611686018427387904 : Nat) ∧ Q [V1.one (Lf.bool (decide ((scanL exampleL (List.set (List.replicate (1 : Nat) (K.dflt K.bool)) (0 : Nat) true) (List.replicate (Int.toNat (2 : Int)) (K.dflt K.bool), [], [])).fst.fst = List.set (List.set (List.replicate (2 : Nat) (K.dflt K.bool)) (0 : Nat) false) (1 : Nat) true)))] []) ∧ small (List.replicate (Int.toNat (2 : Int)) (K.dflt K.bool), [], []) ∧ List.length (scanL exampleL (List.set (List.replicate (1 : Nat) (K.dflt K.bool)) (0 : Nat) true) (List.replicate (Int.toNat (2 : Int)) (K.dflt K.bool), [], [])).snd.fst ≤ (4611686018427387904 : Nat) ∧ List.length (scanL exampleL (List.set (List.replicate (1 : Nat) (K.dflt K.bool)) (0 : Nat) true) (List.replicate (Int.toNat (2 : Int)) (K.dflt K.bool), [], [])).fst.fst ≤ (4611686018427387904 : Nat) ∧ Q [V1.one (Lf.bool (decide ((scanL exampleL (List.set (List.replicate (1 : Nat) (K.dflt K.bool)) (0 : Nat) true) (List.replicate (Int.toNat (2 : Int)) (K.dflt K.bool), [], [])).fst.fst = List.set (List.set (List.replicate (2 : Nat) (K.dflt K.bool)) (0 : Nat) false) (1 : Nat) true)))] []) ∧ (((small (List.replicate (Int.toNat (2 : Int)) (K.dflt K.bool), [], []) ∧ List.length (scanL exampleL (List.set (List.replicate (1 : Nat) (K.dflt K.bool)) (0 : Nat) true) (List.replicate (Int.toNat (2 : Int)) (K.dflt K.bool), [], [])).snd.fst ≤ (4611686018427387904 : Nat) ∧ List.length (scanL exampleL (List.set (List.replicate (1 : Nat) (K.dflt K.bool)) (0 : Nat) true) (List.replicate (Int.toNat (2 : Int)) (K.dflt K.bool), [], [])).fst.fst ≤ (4611686018427387904 : Nat) ∧ Q [V1.one (Lf.bool (decide ((scanL exampleL (List.set (List.replicate (1 : Nat) (K.dflt K.bool)) (0 : Nat) true) (List.replicate (Int.toNat (2 : Int)) (K.dflt K.bool), [], [])).fst.fst = List.set (List.set (List.replicate (2 : Nat) (K.dflt K.bool)) (0 : Nat) false) (1 : Nat) true)))] []) ∧ small (List.replicate (Int.toNat (2 : Int)) (K.dflt K.bool), [], []) ∧ List.length (scanL exampleL (List.set (List.replicate (1 : Nat) (K.dflt K.bool)) (0 : Nat) true) (List.replicate (Int.toNat (2 : Int)) (K.dflt K.bool), [], [])).snd.fst ≤ (4611686018427387904 : Nat) ∧ List.length (scanL exampleL (List.set (List.replicate (1 : Nat) (K.dflt K.bool)) (0 : Nat) true) (List.replicate (Int.toNat (2 : Int)) (K.dflt K.bool), [], [])).fst.fst ≤ (4611686018427387904 : Nat) ∧ Q [V1.one (Lf.bool (decide ((scanL exampleL (List.set (List.replicate (1 : Nat) (K.dflt K.bool)) (0 : Nat) true) (List.replicate (Int.toNat (2 : Int)) (K.dflt K.bool), [], [])).fst.fst = List.set (List.set (List.replicate (2 : Nat) (K.dflt K.bool)) (0 : Nat) false) (1 : Nat) true)))] []) ∧ small (List.replicate (Int.toNat (2 : Int)) (K.dflt K.bool), [], []) ∧ List.length (scanL exampleL (List.set (List.replicate (1 : Nat) (K.dflt K.bool)) (0 : Nat) true) (List.replicate (Int.toNat (2 : Int)) (K.dflt K.bool), [], [])).snd.fst ≤ (4611686018427387904 : Nat) ∧ List.length (scanL exampleL (List.set (List.replicate (1 : Nat) (K.dflt K.bool)) (0 : Nat) true) (List.replicate (Int.toNat (2 : Int)) (K.dflt K.bool), [], [])).fst.fst ≤ (4611686018427387904 : Nat) ∧ Q [V1.one (Lf.bool (decide ((scanL exampleL (List.set (List.replicate (1 : Nat) (K.dflt K.bool)) (0 : Nat) true) (List.replicate (Int.toNat (2 : Int)) (K.dflt K.bool), [], [])).fst.fst = List.set (List.set (List.replicate (2 : Nat) (K.dflt K.bool)) (0 : Nat) false) (1 : Nat) true)))] []) ∧ (small (List.replicate (Int.toNat (2 : Int)) (K.dflt K.bool), [], []) ∧ List.length (scanL exampleL (List.set (List.replicate (1 : Nat) (K.dflt K.bool)) (0 : Nat) true) (List.replicate (Int.toNat (2 : Int)) (K.dflt K.bool), [], [])).snd.fst ≤ (4611686018427387904 : Nat) ∧ List.length (scanL exampleL (List.set (List.replicate (1 : Nat) (K.dflt K.bool)) (0 : Nat) true) (List.replicate (Int.toNat (2 : Int)) (K.dflt K.bool), [], [])).fst.fst ≤ (4611686018427387904 : Nat) ∧ Q [V1.one (Lf.bool (decide ((scanL exampleL (List.set (List.replicate (1 : Nat) (K.dflt K.bool)) (0 : Nat) true) (List.replicate (Int.toNat (2 : Int)) (K.dflt K.bool), [], [])).fst.fst = List.set (List.set (List.replicate (2 : Nat) (K.dflt K.bool)) (0 : Nat) false) (1 : Nat) true)))] []) ∧ small (List.replicate (Int.toNat (2 : Int)) (K.dflt K.bool), [], []) ∧ List.length (scanL exampleL (List.set (List.replicate (1 : Nat) (K.dflt K.bool)) (0 : Nat) true) (List.replicate (Int.toNat (2 : Int)) (K.dflt K.bool), [], [])).snd.fst ≤ (4611686018427387904 : Nat) ∧ List.length (scanL exampleL (List.set (List.replicate (1 : Nat) (K.dflt K.bool)) (0 : Nat) true) (List.replicate (Int.toNat (2 : Int)) (K.dflt K.bool), [], [])).fst.fst ≤ (4611686018427387904 : Nat) ∧ Q [V1.one (Lf.bool (decide ((scanL exampleL (List.set (List.replicate (1 : Nat) (K.dflt K.bool)) (0 : Nat) true) (List.replicate (Int.toNat (2 : Int)) (K.dflt K.bool), [], [])).fst.fst = List.set (List.set (List.replicate (2 : Nat) (K.dflt K.bool)) (0 : Nat) false) (1 : Nat) true)))] []) ∧ ((((0 : Int) ≤ (2 : Int) ∧ (2 : Int) ≤ (2 : Int) ∧ (2 : Int) ≤ (17592186044416 : Int)) ∧ room tt (4 : TypeId) (Int.toNat (2 : Int)) ∧ small (List.replicate (Int.toNat (2 : Int)) (K.dflt K.bool), [], []) ∧ List.length (scanL exampleL (List.set (List.replicate (1 : Nat) (K.dflt K.bool)) (0 : Nat) true) (List.replicate (Int.toNat (2 : Int)) (K.dflt K.bool), [], [])).snd.fst ≤ (4611686018427387904 : Nat) ∧ List.length (scanL exampleL (List.set (List.replicate (1 : Nat) (K.dflt K.bool)) (0 : Nat) true) (List.replicate (Int.toNat (2 : Int)) (K.dflt K.bool), [], [])).fst.fst ≤ (4611686018427387904 : Nat) ∧ Q [V1.one (Lf.bool (decide ((scanL exampleL (List.set (List.replicate (1 : Nat) (K.dflt K.bool)) (0 : Nat) true) (List.replicate (Int.toNat (2 : Int)) (K.dflt K.bool), [], [])).fst.fst = List.set (List.set (List.replicate (2 : Nat) (K.dflt K.bool)) (0 : Nat) false) (1 : Nat) true)))] []) ∧ ((0 : Int) ≤ (2 : Int) ∧ (2 : Int) ≤ (2 : Int) ∧ (2 : Int) ≤ (17592186044416 : Int)) ∧ room tt (4 : TypeId) (Int.toNat (2 : Int)) ∧ small (List.replicate (Int.toNat (2 : Int)) (K.dflt K.bool), [], []) ∧ List.length (scanL exampleL (List.set (List.replicate (1 : Nat) (K.dflt K.bool)) (0 : Nat) true) (List.replicate (Int.toNat (2 : Int)) (K.dflt K.bool), [], [])).snd.fst ≤ (4611686018427387904 : Nat) ∧ List.length (scanL exampleL (List.set (List.replicate (1 : Nat) (K.dflt K.bool)) (0 : Nat) true) (List.replicate (Int.toNat (2 : Int)) (K.dflt K.bool), [], [])).fst.fst ≤ (4611686018427387904 : Nat) ∧ Q [V1.one (Lf.bool (decide ((scanL exampleL (List.set (List.replicate (1 : Nat) (K.dflt K.bool)) (0 : Nat) true) (List.replicate (Int.toNat (2 : Int)) (K.dflt K.bool), [], [])).fst.fst = List.set (List.set (List.replicate (2 : Nat) (K.dflt K.bool)) (0 : Nat) false) (1 : Nat) true)))] []) ∧ ((((0 : Int) ≤ (2 : Int) ∧ (2 : Int) ≤ (2 : Int) ∧ (2 : Int) ≤ (17592186044416 : Int)) ∧ room tt (4 : TypeId) (Int.toNat (2 : Int)) ∧ small (List.replicate (Int.toNat (2 : Int)) (K.dflt K.bool), [], []) ∧ List.length (scanL exampleL (List.set (List.replicate (1 : Nat) (K.dflt K.bool)) (0 : Nat) true) (List.replicate (Int.toNat (2 : Int)) (K.dflt K.bool), [], [])).snd.fst ≤ (4611686018427387904 : Nat) ∧ List.length (scanL exampleL (List.set (List.replicate (1 : Nat) (K.dflt K.bool)) (0 : Nat) true) (List.replicate (Int.toNat (2 : Int)) (K.dflt K.bool), [], [])).fst.fst ≤ (4611686018427387904 : Nat) ∧ Q [V1.one (Lf.bool (decide ((scanL exampleL (List.set (List.replicate (1 : Nat) (K.dflt K.bool)) (0 : Nat) true) (List.replicate (Int.toNat (2 : Int)) (K.dflt K.bool), [], [])).fst.fst = List.set (List.set (List.replicate (2 : Nat) (K.dflt K.bool)) (0 : Nat) false) (1 : Nat) true)))] []) ∧ ((0 : Int) ≤ (2 : Int) ∧ (2 : Int) ≤ (2 : Int) ∧ (2 : Int) ≤ (17592186044416 : Int)) ∧ room tt (4 : TypeId) (Int.toNat (2 : Int)) ∧ small (List.replicate (Int.toNat (2 : Int)) (K.dflt K.bool), [], []) ∧ List.length (scanL exampleL (List.set (List.replicate (1 : Nat) (K.dflt K.bool)) (0 : Nat) true) (List.replicate (Int.toNat (2 : Int)) (K.dflt K.bool), [], [])).snd.fst ≤ (4611686018427387904 : Nat) ∧ List.length (scanL exampleL (List.set (List.replicate (1 : Nat) (K.dflt K.bool)) (0 : Nat) true) (List.replicate (Int.toNat (2 : Int)) (K.dflt K.bool), [], [])).fst.fst ≤ (4611686018427387904 : Nat) ∧ Q [V1.one (Lf.bool (decide ((scanL exampleL (List.set (List.replicate (1 : Nat) (K.dflt K.bool)) (0 : Nat) true) (List.replicate (Int.toNat (2 : Int)) (K.dflt K.bool), [], [])).fst.fst = List.set (List.set (List.replicate (2 : Nat) (K.dflt K.bool)) (0 : Nat) false) (1 : Nat) true)))] []) ∧ ((0 : Int) ≤ (2 : Int) ∧ (2 : Int) ≤ (2 : Int) ∧ (2 : Int) ≤ (17592186044416 : Int)) ∧ room tt (4 : TypeId) (Int.toNat (2 : Int)) ∧ (small (List.replicate (Int.toNat (2 : Int)) (K.dflt K.bool), [], []) ∧ List.length (scanL exampleL (List.set (List.replicate (1 : Nat) (K.dflt K.bool)) (0 : Nat) true) (List.replicate (Int.toNat (2 : Int)) (K.dflt K.bool), [], [])).snd.fst ≤ (4611686018427387904 : Nat) ∧ List.length (scanL exampleL (List.set (List.replicate (1 : Nat) (K.dflt K.bool)) (0 : Nat) true) (List.replicate (Int.toNat (2 : Int)) (K.dflt K.bool), [], [])).fst.fst ≤ (4611686018427387904 : Nat) ∧ Q [V1.one (Lf.bool (decide ((scanL exampleL (List.set (List.replicate (1 : Nat) (K.dflt K.bool)) (0 : Nat) true) (List.replicate (Int.toNat (2 : Int)) (K.dflt K.bool), [], [])).fst.fst = List.set (List.set (List.replicate (2 : Nat) (K.dflt K.bool)) (0 : Nat) false) (1 : Nat) true)))] []) ∧ small (List.replicate (Int.toNat (2 : Int)) (K.dflt K.bool), [], []) ∧ List.length (scanL exampleL (List.set (List.replicate (1 : Nat) (K.dflt K.bool)) (0 : Nat) true) (List.replicate (Int.toNat (2 : Int)) (K.dflt K.bool), [], [])).snd.fst ≤ (4611686018427387904 : Nat) ∧ List.length (scanL exampleL (List.set (List.replicate (1 : Nat) (K.dflt K.bool)) (0 : Nat) true) (List.replicate (Int.toNat (2 : Int)) (K.dflt K.bool), [], [])).fst.fst ≤ (4611686018427387904 : Nat) ∧ Q [V1.one (Lf.bool (decide ((scanL exampleL (List.set (List.replicate (1 : Nat) (K.dflt K.bool)) (0 : Nat) true) (List.replicate (Int.toNat (2 : Int)) (K.dflt K.bool), [], [])).fst.fst = List.set (List.set (List.replicate (2 : Nat) (K.dflt K.bool)) (0 : Nat) false) (1 : Nat) true)))] []
theorem t9_mono {Q : List V1 → List Ob → Prop} {Q' : List V1 → List Ob → Prop} (hq : ∀ r h, Q r h → Q' r h) :
    t9 Q → t9 Q' :=
  andM (andM (andM (andM (andM (id) (andM (id) (id))) (andM (id) (andM (andM (id) (andM (id) (andM (id) (hq _ _)))) (andM (id) (andM (id) (andM (id) (hq _ _))))))) (andM (andM (id) (andM (id) (id))) (andM (id) (andM (id) (andM (id) (andM (id) (hq _ _))))))) (andM (andM (andM (id) (andM (id) (id))) (andM (id) (andM (andM (andM (id) (andM (id) (andM (id) (hq _ _)))) (andM (id) (andM (id) (andM (id) (hq _ _))))) (andM (id) (andM (id) (andM (id) (hq _ _))))))) (andM (andM (andM (id) (andM (id) (id))) (andM (id) (andM (id) (andM (id) (andM (id) (hq _ _)))))) (andM (andM (id) (andM (id) (id))) (andM (id) (andM (id) (andM (id) (andM (id) (hq _ _))))))))) (andM (andM (andM (andM (andM (id) (andM (id) (id))) (andM (id) (andM (andM (id) (andM (id) (andM (id) (hq _ _)))) (andM (id) (andM (id) (andM (id) (hq _ _))))))) (andM (andM (id) (andM (id) (id))) (andM (id) (andM (id) (andM (id) (andM (id) (hq _ _))))))) (andM (andM (andM (id) (andM (id) (id))) (andM (id) (andM (andM (andM (id) (andM (id) (andM (id) (hq _ _)))) (andM (id) (andM (id) (andM (id) (hq _ _))))) (andM (id) (andM (id) (andM (id) (hq _ _))))))) (andM (andM (andM (id) (andM (id) (id))) (andM (id) (andM (id) (andM (id) (andM (id) (hq _ _)))))) (andM (andM (id) (andM (id) (id))) (andM (id) (andM (id) (andM (id) (andM (id) (hq _ _))))))))) (andM (andM (andM (id) (andM (id) (id))) (andM (id) (andM (andM (andM (andM (id) (andM (id) (andM (id) (hq _ _)))) (andM (id) (andM (id) (andM (id) (hq _ _))))) (andM (id) (andM (id) (andM (id) (hq _ _))))) (andM (andM (andM (andM (id) (andM (id) (andM (id) (hq _ _)))) (andM (id) (andM (id) (andM (id) (hq _ _))))) (andM (id) (andM (id) (andM (id) (hq _ _))))) (andM (andM (id) (andM (id) (andM (id) (hq _ _)))) (andM (id) (andM (id) (andM (id) (hq _ _))))))))) (andM (andM (andM (andM (id) (andM (id) (id))) (andM (id) (andM (id) (andM (id) (andM (id) (hq _ _)))))) (andM (andM (id) (andM (id) (id))) (andM (id) (andM (id) (andM (id) (andM (id) (hq _ _))))))) (andM (andM (andM (andM (id) (andM (id) (id))) (andM (id) (andM (id) (andM (id) (andM (id) (hq _ _)))))) (andM (andM (id) (andM (id) (id))) (andM (id) (andM (id) (andM (id) (andM (id) (hq _ _))))))) (andM (andM (id) (andM (id) (id))) (andM (id) (andM (andM (id) (andM (id) (andM (id) (hq _ _)))) (andM (id) (andM (id) (andM (id) (hq _ _)))))))))))
theorem t9_eq (Q : List V1 → List Ob → Prop) :
    t9 Q = (afun tt E9 A9 Try.f9 (I9) [] Q) := by kernel_rfl
def H9 (Q : List V1 → List Ob → Prop) : Prop := t9 Q
theorem ok9 (Q : List V1 → List Ob → Prop) (h : H9 Q) : Of (afun tt E9 A9 Try.f9 (I9) [] Q) :=
  kcO (t9_eq Q) (t9_mono (fun _ _ h => h) h)
theorem env9 : EnvOk Try.prog E9 := .cons spec11 (by kernel_rfl) <| .cons spec14 (by kernel_rfl) <| .cons spec22 (by kernel_rfl) <| .nil
theorem alive_eq : scanL exampleL (List.set (List.replicate (1 : Nat) (K.dflt K.bool)) (0 : Nat) true) (List.replicate (Int.toNat (2 : Int)) (K.dflt K.bool), [], []) = (([false, true], [], []), [true, false, true], 0) := by kernel_rfl
theorem spec9 : SpecOk Try.prog 9 sp9 := S0.ok tt_ok mixed env9 Try.func9 fun Q h => ok9 Q <| by
  have h : Q [.one (.bool true)] [] := h
  have hr : room tt 4 (Int.toNat (2 : Int)) := room4 (by decide)
  have hs : small (List.replicate (Int.toNat (2 : Int)) (K.dflt K.bool), [], []) := by refine ⟨?_, ?_, ?_⟩ <;> decide
  unfold H9 t9
  rw [alive_eq]
  have e1 : ((0 : Int) ≤ (2 : Int) ∧ (2 : Int) ≤ (2 : Int) ∧ (2 : Int) ≤ (17592186044416 : Int)) := by omega
  have e2 : List.length [true, false, true] ≤ 4611686018427387904 := by decide
  have e3 : List.length [false, true] ≤ 4611686018427387904 := by decide
  have e4 : Q [V1.one (Lf.bool (decide ([false, true] = List.set (List.set (List.replicate (2 : Nat) (K.dflt K.bool)) (0 : Nat) false) (1 : Nat) true)))] [] := h
  repeat' (first | assumption | apply And.intro)
  all_goals first | assumption | exact e1.1 | exact e1.2.1 | exact e1.2.2 | exact hs.1 | exact hs.2.1 | exact hs.2.2
end Go.AM
namespace Go.AM
open Go.Proofs
-- f5 "busbar/busbarlaw20.PathmodelSkipsToLabel" ['24', '27', '25'] -> ['4']
def A5 : Ann := [(0, [3, 8, 10], [], [6]), (2, [3, 8, 10, 11], [3, 8, 10, 11], [6])]
def E5 : Env := [(8, sp8), (9, sp9), (11, sp11)]
def I5 (p0 : (k23 : K).ty) (p1 : (k26 : K).ty) (p2 : ((.slice 4 .bool) : K).ty) : List V1 := [nfK k23 p0, nfK k26 p1, nfK (.slice 4 .bool) p2]
noncomputable def L5_0 : Code := Code.a (Code.a (Code.b (Code.a (Code.b (Code.b (Code.b (Code.b (Func.code Try.f5))))))))
def S5_0 (l8 : List (K.ty K.bool)) (x10 : Int) (xh0_0 : Int) (xh0_1 : Int) (xh0_2 : Int) (lh0_3 : List (K.ty k45)) : St := sp (111 : Nat) [((3 : Nat), V.v (V1.one (Lf.ptr (nat_lit 0) (nat_lit 0)))), ((8 : Nat), V.v (V1.one (Lf.sl (4 : TypeId) K.bool l8))), ((10 : Nat), V.v (V1.one (Lf.int IntKind.i64 x10)))] [Ob.box (24 : Nat) [Lf.int IntKind.i64 xh0_0, Lf.int IntKind.i64 xh0_1, Lf.int IntKind.i64 xh0_2, Lf.sl (46 : TypeId) k45 lh0_3]]
def X5_0_0 (b6 : Bool) : St := sp (111 : Nat) [((6 : Nat), V.v (V1.one (Lf.bool b6)))] []
def X5_0_1 : St := sp (111 : Nat) [] []
noncomputable def L5_2 : Code := Code.a (Code.a (Code.a (Code.b (Code.b (Code.a (Code.a (Code.b (Code.a (Code.a (Code.b (Code.a (Code.b (Code.b (Code.b (Code.b (Func.code Try.f5))))))))))))))))
def S5_2 (l8 : List (K.ty K.bool)) (x10 : Int) (x11 : Int) (xh0_0 : Int) (xh0_1 : Int) (xh0_2 : Int) (lh0_3 : List (K.ty k45)) : St := sp (111 : Nat) [((3 : Nat), V.v (V1.one (Lf.ptr (nat_lit 0) (nat_lit 0)))), ((8 : Nat), V.v (V1.one (Lf.sl (4 : TypeId) K.bool l8))), ((10 : Nat), V.v (V1.one (Lf.int IntKind.i64 x10))), ((11 : Nat), V.v (V1.one (Lf.int IntKind.i64 x11)))] [Ob.box (24 : Nat) [Lf.int IntKind.i64 xh0_0, Lf.int IntKind.i64 xh0_1, Lf.int IntKind.i64 xh0_2, Lf.sl (46 : TypeId) k45 lh0_3]]
def X5_2_0 (l8 : List (K.ty K.bool)) (x10 : Int) (x11 : Int) (xh0_0 : Int) (xh0_1 : Int) (xh0_2 : Int) (lh0_3 : List (K.ty k45)) : St := sp (111 : Nat) [((3 : Nat), V.v (V1.one (Lf.ptr (nat_lit 0) (nat_lit 0)))), ((8 : Nat), V.v (V1.one (Lf.sl (4 : TypeId) K.bool l8))), ((10 : Nat), V.v (V1.one (Lf.int IntKind.i64 x10))), ((11 : Nat), V.v (V1.one (Lf.int IntKind.i64 x11)))] [Ob.box (24 : Nat) [Lf.int IntKind.i64 xh0_0, Lf.int IntKind.i64 xh0_1, Lf.int IntKind.i64 xh0_2, Lf.sl (46 : TypeId) k45 lh0_3]]
def t5_2 (again : List (K.ty K.bool) → Int → Int → Int → Int → Int → List (K.ty k45) → Prop) (R0 : List (K.ty K.bool) → Int → Int → Int → Int → Int → List (K.ty k45) → Prop) (l8 : List (K.ty K.bool)) (x10 : Int) (x11 : Int) (xh0_0 : Int) (xh0_1 : Int) (xh0_2 : Int) (lh0_3 : List (K.ty k45)) : Prop :=
  brP (decide (x11 < (↑(List.length l8) : Int))) (bound x11 (List.length l8) ∧ brP (!getE K.bool l8 x11) (again l8 x10 (IntKind.wrap IntKind.i64 (x11 + (1 : Int))) xh0_0 xh0_1 xh0_2 lh0_3) (R0 l8 x10 x11 xh0_0 xh0_1 xh0_2 lh0_3)) (R0 l8 x10 x11 xh0_0 xh0_1 xh0_2 lh0_3)
theorem t5_2_mono {again : List (K.ty K.bool) → Int → Int → Int → Int → Int → List (K.ty k45) → Prop} {R0 : List (K.ty K.bool) → Int → Int → Int → Int → Int → List (K.ty k45) → Prop} {again' : List (K.ty K.bool) → Int → Int → Int → Int → Int → List (K.ty k45) → Prop} {R0' : List (K.ty K.bool) → Int → Int → Int → Int → Int → List (K.ty k45) → Prop} (ha : ∀ l8 x10 x11 xh0_0 xh0_1 xh0_2 lh0_3, again l8 x10 x11 xh0_0 xh0_1 xh0_2 lh0_3 → again' l8 x10 x11 xh0_0 xh0_1 xh0_2 lh0_3) (hr0 : ∀ l8 x10 x11 xh0_0 xh0_1 xh0_2 lh0_3, R0 l8 x10 x11 xh0_0 xh0_1 xh0_2 lh0_3 → R0' l8 x10 x11 xh0_0 xh0_1 xh0_2 lh0_3) (l8 : List (K.ty K.bool)) (x10 : Int) (x11 : Int) (xh0_0 : Int) (xh0_1 : Int) (xh0_2 : Int) (lh0_3 : List (K.ty k45)) :
    t5_2 again R0 l8 x10 x11 xh0_0 xh0_1 xh0_2 lh0_3 → t5_2 again' R0' l8 x10 x11 xh0_0 xh0_1 xh0_2 lh0_3 :=
  brM (andM (id) (brM (ha _ _ _ _ _ _ _) (hr0 _ _ _ _ _ _ _))) (hr0 _ _ _ _ _ _ _)
theorem t5_2_eq (n : Nat) (Q : Ex → St → Prop) (l8 : List (K.ty K.bool)) (x10 : Int) (x11 : Int) (xh0_0 : Int) (xh0_1 : Int) (xh0_2 : Int) (lh0_3 : List (K.ty k45)) :
    t5_2 (fun l8 x10 x11 xh0_0 xh0_1 xh0_2 lh0_3 => loopP (awp tt E5 A5 L5_2 2) ([(3 : Nat), (8 : Nat), (10 : Nat), (11 : Nat)], [(3 : Nat), (8 : Nat), (10 : Nat), (11 : Nat)], [(6 : Nat)]) n (S5_2 l8 x10 x11 xh0_0 xh0_1 xh0_2 lh0_3) Q) (fun l8 x10 x11 xh0_0 xh0_1 xh0_2 lh0_3 => Q (Ex.exit (nat_lit 2)) (X5_2_0 l8 x10 x11 xh0_0 xh0_1 xh0_2 lh0_3)) l8 x10 x11 xh0_0 xh0_1 xh0_2 lh0_3 = (loopP (awp tt E5 A5 L5_2 2) ([(3 : Nat), (8 : Nat), (10 : Nat), (11 : Nat)], [(3 : Nat), (8 : Nat), (10 : Nat), (11 : Nat)], [(6 : Nat)]) (n + 1) (S5_2 l8 x10 x11 xh0_0 xh0_1 xh0_2 lh0_3) Q) := by kernel_rfl
def G5_2 (R0 : List (K.ty K.bool) → Int → Int → Int → Int → Int → List (K.ty k45) → Prop) : Nat → List (K.ty K.bool) → Int → Int → Int → Int → Int → List (K.ty k45) → Prop
  | 0, _, _, _, _, _, _, _ => False
  | n + 1, l8, x10, x11, xh0_0, xh0_1, xh0_2, lh0_3 => t5_2 (G5_2 R0 n) R0 l8 x10 x11 xh0_0 xh0_1 xh0_2 lh0_3
theorem T5_2 {R0 : List (K.ty K.bool) → Int → Int → Int → Int → Int → List (K.ty k45) → Prop} (Q : Ex → St → Prop) (hr0 : ∀ l8 x10 x11 xh0_0 xh0_1 xh0_2 lh0_3, R0 l8 x10 x11 xh0_0 xh0_1 xh0_2 lh0_3 → Of (Q (Ex.exit (nat_lit 2)) (X5_2_0 l8 x10 x11 xh0_0 xh0_1 xh0_2 lh0_3))) : ∀ (n : Nat) (l8 : List (K.ty K.bool)) (x10 : Int) (x11 : Int) (xh0_0 : Int) (xh0_1 : Int) (xh0_2 : Int) (lh0_3 : List (K.ty k45)), G5_2 R0 n l8 x10 x11 xh0_0 xh0_1 xh0_2 lh0_3 → Of (loopP (awp tt E5 A5 L5_2 2) ([(3 : Nat), (8 : Nat), (10 : Nat), (11 : Nat)], [(3 : Nat), (8 : Nat), (10 : Nat), (11 : Nat)], [(6 : Nat)]) n (S5_2 l8 x10 x11 xh0_0 xh0_1 xh0_2 lh0_3) Q) := by
  intro n
  induction n with
  | zero => intro l8 x10 x11 xh0_0 xh0_1 xh0_2 lh0_3 h; exact h.elim
  | succ n ih =>
    intro l8 x10 x11 xh0_0 xh0_1 xh0_2 lh0_3 h
    exact kcO (t5_2_eq n Q l8 x10 x11 xh0_0 xh0_1 xh0_2 lh0_3) (t5_2_mono (fun _ _ _ _ _ _ _ h => (ih _ _ _ _ _ _ _ h).out) (fun _ _ _ _ _ _ _ h => (hr0 _ _ _ _ _ _ _ h).out) l8 x10 x11 xh0_0 xh0_1 xh0_2 lh0_3 h)
def t5_0 (again : List (K.ty K.bool) → Int → Int → Int → Int → List (K.ty k45) → Prop) (R0 : Bool → Prop) (R1 : Prop) (lp0 : List (K.ty K.bool) → Int → Int → Int → Int → List (K.ty k45) → Prop) (l8 : List (K.ty K.bool)) (x10 : Int) (xh0_0 : Int) (xh0_1 : Int) (xh0_2 : Int) (lh0_3 : List (K.ty k45)) : Prop :=
  brP (decide (x10 < (↑(List.length l8) : Int))) (bound x10 (List.length l8) ∧ brP (!getE K.bool l8 x10) (again l8 (IntKind.wrap IntKind.i64 (x10 + (1 : Int))) xh0_0 xh0_1 xh0_2 lh0_3) (brP (decide (IntKind.wrap IntKind.i64 (x10 + (1 : Int)) ≥ (↑(List.length l8) : Int))) (again l8 (IntKind.wrap IntKind.i64 (x10 + (1 : Int))) xh0_0 xh0_1 xh0_2 lh0_3) (bound (IntKind.wrap IntKind.i64 (x10 + (1 : Int))) (List.length l8) ∧ brP (getE K.bool l8 (IntKind.wrap IntKind.i64 (x10 + (1 : Int)))) (again l8 (IntKind.wrap IntKind.i64 (x10 + (1 : Int))) xh0_0 xh0_1 xh0_2 lh0_3) (lp0 l8 x10 xh0_0 xh0_1 xh0_2 lh0_3)))) R1
theorem t5_0_mono {again : List (K.ty K.bool) → Int → Int → Int → Int → List (K.ty k45) → Prop} {R0 : Bool → Prop} {R1 : Prop} {again' : List (K.ty K.bool) → Int → Int → Int → Int → List (K.ty k45) → Prop} {R0' : Bool → Prop} {R1' : Prop} {lp0 : List (K.ty K.bool) → Int → Int → Int → Int → List (K.ty k45) → Prop} {lp0' : List (K.ty K.bool) → Int → Int → Int → Int → List (K.ty k45) → Prop} (ha : ∀ l8 x10 xh0_0 xh0_1 xh0_2 lh0_3, again l8 x10 xh0_0 xh0_1 xh0_2 lh0_3 → again' l8 x10 xh0_0 xh0_1 xh0_2 lh0_3) (hr0 : ∀ b6, R0 b6 → R0' b6) (hr1 :  R1 → R1') (hlp0 : ∀ l8 x10 xh0_0 xh0_1 xh0_2 lh0_3, lp0 l8 x10 xh0_0 xh0_1 xh0_2 lh0_3 → lp0' l8 x10 xh0_0 xh0_1 xh0_2 lh0_3) (l8 : List (K.ty K.bool)) (x10 : Int) (xh0_0 : Int) (xh0_1 : Int) (xh0_2 : Int) (lh0_3 : List (K.ty k45)) :
    t5_0 again R0 R1 lp0 l8 x10 xh0_0 xh0_1 xh0_2 lh0_3 → t5_0 again' R0' R1' lp0' l8 x10 xh0_0 xh0_1 xh0_2 lh0_3 :=
  brM (andM (id) (brM (ha _ _ _ _ _ _) (brM (ha _ _ _ _ _ _) (andM (id) (brM (ha _ _ _ _ _ _) (hlp0 _ _ _ _ _ _)))))) (hr1)
theorem t5_0_eq (n : Nat) (Q : Ex → St → Prop) (l8 : List (K.ty K.bool)) (x10 : Int) (xh0_0 : Int) (xh0_1 : Int) (xh0_2 : Int) (lh0_3 : List (K.ty k45)) :
    t5_0 (fun l8 x10 xh0_0 xh0_1 xh0_2 lh0_3 => loopP (awp tt E5 A5 L5_0 0) ([(3 : Nat), (8 : Nat), (10 : Nat)], [], [(6 : Nat)]) n (S5_0 l8 x10 xh0_0 xh0_1 xh0_2 lh0_3) Q) (fun b6 => Q (Ex.ret) (X5_0_0 b6)) ( Q (Ex.exit (nat_lit 0)) (X5_0_1)) (fun l8 x10 xh0_0 xh0_1 xh0_2 lh0_3 => ∃ m, loopP (awp tt E5 A5 L5_2 2) ([(3 : Nat), (8 : Nat), (10 : Nat), (11 : Nat)], [(3 : Nat), (8 : Nat), (10 : Nat), (11 : Nat)], [(6 : Nat)]) m (S5_2 (l8) (x10) (IntKind.wrap IntKind.i64 (x10 + (1 : Int))) (xh0_0) (xh0_1) (xh0_2) (lh0_3)) (blkC (2 : Nat) (seqC (awp tt E5 A5 (Code.b (Code.b (Code.b (Code.a (Code.a (Code.b (Code.a (Code.a (Code.b (Code.a (Code.b (Code.b (Code.b (Code.b (Func.code Try.f5))))))))))))))) (1 : Nat)) (blkC (1 : Nat) (seqC (awp tt E5 A5 (Code.b (Code.b (Code.a (Code.a (Code.b (Code.a (Code.b (Code.b (Code.b (Code.b (Func.code Try.f5))))))))))) (0 : Nat)) (loopC (awp tt E5 A5 (Code.a (Code.a (Code.b (Code.a (Code.b (Code.b (Code.b (Code.b (Func.code Try.f5))))))))) (0 : Nat)) ([(3 : Nat), (8 : Nat), (10 : Nat)], [], [(6 : Nat)]) n Q)))))) l8 x10 xh0_0 xh0_1 xh0_2 lh0_3 = (loopP (awp tt E5 A5 L5_0 0) ([(3 : Nat), (8 : Nat), (10 : Nat)], [], [(6 : Nat)]) (n + 1) (S5_0 l8 x10 xh0_0 xh0_1 xh0_2 lh0_3) Q) := by kernel_rfl
def t5_0c0x0 (again : List (K.ty K.bool) → Int → Int → Int → Int → List (K.ty k45) → Prop) (R0 : Bool → Prop) (R1 : Prop) (l8 : List (K.ty K.bool)) (x10 : Int) (xh0_0 : Int) (xh0_1 : Int) (xh0_2 : Int) (lh0_3 : List (K.ty k45)) (l8e6 : List (K.ty K.bool)) (x10e6 : Int) (x11e6 : Int) (xh0_0e6 : Int) (xh0_1e6 : Int) (xh0_2e6 : Int) (lh0_3e6 : List (K.ty k45)) : Prop :=
  brP (x11e6 == (↑(List.length l8e6) : Int)) (R0 false) (bound x10e6 (List.length lh0_3e6) ∧ brP (ByteArray.toList (getE k45 lh0_3e6 x10e6).snd.snd.snd == ByteArray.toList (ByteArray.mk #[])) (R0 false) (bound x11e6 (List.length lh0_3e6) ∧ bound x10e6 (List.length lh0_3e6) ∧ brP (ByteArray.toList (getE k45 lh0_3e6 x11e6).fst != ByteArray.toList (getE k45 lh0_3e6 x10e6).snd.snd.snd) (R0 false) (again l8e6 (IntKind.wrap IntKind.i64 (x10e6 + (1 : Int))) xh0_0e6 xh0_1e6 xh0_2e6 lh0_3e6)))
theorem t5_0c0x0_mono {again : List (K.ty K.bool) → Int → Int → Int → Int → List (K.ty k45) → Prop} {R0 : Bool → Prop} {R1 : Prop} {again' : List (K.ty K.bool) → Int → Int → Int → Int → List (K.ty k45) → Prop} {R0' : Bool → Prop} {R1' : Prop} (ha : ∀ l8 x10 xh0_0 xh0_1 xh0_2 lh0_3, again l8 x10 xh0_0 xh0_1 xh0_2 lh0_3 → again' l8 x10 xh0_0 xh0_1 xh0_2 lh0_3) (hr0 : ∀ b6, R0 b6 → R0' b6) (hr1 :  R1 → R1') (l8 : List (K.ty K.bool)) (x10 : Int) (xh0_0 : Int) (xh0_1 : Int) (xh0_2 : Int) (lh0_3 : List (K.ty k45)) (l8e6 : List (K.ty K.bool)) (x10e6 : Int) (x11e6 : Int) (xh0_0e6 : Int) (xh0_1e6 : Int) (xh0_2e6 : Int) (lh0_3e6 : List (K.ty k45)) :
    t5_0c0x0 again R0 R1 l8 x10 xh0_0 xh0_1 xh0_2 lh0_3 l8e6 x10e6 x11e6 xh0_0e6 xh0_1e6 xh0_2e6 lh0_3e6 → t5_0c0x0 again' R0' R1' l8 x10 xh0_0 xh0_1 xh0_2 lh0_3 l8e6 x10e6 x11e6 xh0_0e6 xh0_1e6 xh0_2e6 lh0_3e6 :=
  brM (hr0 _) (andM (id) (brM (hr0 _) (andM (id) (andM (id) (brM (hr0 _) (ha _ _ _ _ _ _))))))
theorem t5_0c0x0_eq (n : Nat) (Q : Ex → St → Prop) (l8 : List (K.ty K.bool)) (x10 : Int) (xh0_0 : Int) (xh0_1 : Int) (xh0_2 : Int) (lh0_3 : List (K.ty k45)) (l8e6 : List (K.ty K.bool)) (x10e6 : Int) (x11e6 : Int) (xh0_0e6 : Int) (xh0_1e6 : Int) (xh0_2e6 : Int) (lh0_3e6 : List (K.ty k45)) :
    t5_0c0x0 (fun l8 x10 xh0_0 xh0_1 xh0_2 lh0_3 => loopP (awp tt E5 A5 L5_0 0) ([(3 : Nat), (8 : Nat), (10 : Nat)], [], [(6 : Nat)]) n (S5_0 l8 x10 xh0_0 xh0_1 xh0_2 lh0_3) Q) (fun b6 => Q (Ex.ret) (X5_0_0 b6)) ( Q (Ex.exit (nat_lit 0)) (X5_0_1)) l8 x10 xh0_0 xh0_1 xh0_2 lh0_3 l8e6 x10e6 x11e6 xh0_0e6 xh0_1e6 xh0_2e6 lh0_3e6 = ((blkC (2 : Nat) (seqC (awp tt E5 A5 (Code.b (Code.b (Code.b (Code.a (Code.a (Code.b (Code.a (Code.a (Code.b (Code.a (Code.b (Code.b (Code.b (Code.b (Func.code Try.f5))))))))))))))) (1 : Nat)) (blkC (1 : Nat) (seqC (awp tt E5 A5 (Code.b (Code.b (Code.a (Code.a (Code.b (Code.a (Code.b (Code.b (Code.b (Code.b (Func.code Try.f5))))))))))) (0 : Nat)) (loopC (awp tt E5 A5 (Code.a (Code.a (Code.b (Code.a (Code.b (Code.b (Code.b (Code.b (Func.code Try.f5))))))))) (0 : Nat)) ([(3 : Nat), (8 : Nat), (10 : Nat)], [], [(6 : Nat)]) n Q))))) (Ex.exit (nat_lit 2)) (X5_2_0 l8e6 x10e6 x11e6 xh0_0e6 xh0_1e6 xh0_2e6 lh0_3e6)) := by kernel_rfl
def G5_0 (R0 : Bool → Prop) (R1 : Prop) : Nat → List (K.ty K.bool) → Int → Int → Int → Int → List (K.ty k45) → Prop
  | 0, _, _, _, _, _, _ => False
  | n + 1, l8, x10, xh0_0, xh0_1, xh0_2, lh0_3 => t5_0 (G5_0 R0 R1 n) R0 R1 (fun l8 x10 xh0_0 xh0_1 xh0_2 lh0_3 => ∃ m, G5_2 (fun l8e6 x10e6 x11e6 xh0_0e6 xh0_1e6 xh0_2e6 lh0_3e6 => t5_0c0x0 (G5_0 R0 R1 n) R0 R1 l8 x10 xh0_0 xh0_1 xh0_2 lh0_3 l8e6 x10e6 x11e6 xh0_0e6 xh0_1e6 xh0_2e6 lh0_3e6) m (l8) (x10) (IntKind.wrap IntKind.i64 (x10 + (1 : Int))) (xh0_0) (xh0_1) (xh0_2) (lh0_3)) l8 x10 xh0_0 xh0_1 xh0_2 lh0_3
theorem T5_0 {R0 : Bool → Prop} {R1 : Prop} (Q : Ex → St → Prop) (hr0 : ∀ b6, R0 b6 → Of (Q (Ex.ret) (X5_0_0 b6))) (hr1 :  R1 → Of (Q (Ex.exit (nat_lit 0)) (X5_0_1))) : ∀ (n : Nat) (l8 : List (K.ty K.bool)) (x10 : Int) (xh0_0 : Int) (xh0_1 : Int) (xh0_2 : Int) (lh0_3 : List (K.ty k45)), G5_0 R0 R1 n l8 x10 xh0_0 xh0_1 xh0_2 lh0_3 → Of (loopP (awp tt E5 A5 L5_0 0) ([(3 : Nat), (8 : Nat), (10 : Nat)], [], [(6 : Nat)]) n (S5_0 l8 x10 xh0_0 xh0_1 xh0_2 lh0_3) Q) := by
  intro n
  induction n with
  | zero => intro l8 x10 xh0_0 xh0_1 xh0_2 lh0_3 h; exact h.elim
  | succ n ih =>
    intro l8 x10 xh0_0 xh0_1 xh0_2 lh0_3 h
    exact kcO (t5_0_eq n Q l8 x10 xh0_0 xh0_1 xh0_2 lh0_3) (t5_0_mono (fun _ _ _ _ _ _ h => (ih _ _ _ _ _ _ h).out) (fun _ h => (hr0 _ h).out) (fun h => (hr1 h).out) (fun l8 x10 xh0_0 xh0_1 xh0_2 lh0_3 ⟨m, h⟩ => ⟨m, (T5_2 _ (fun l8e6 x10e6 x11e6 xh0_0e6 xh0_1e6 xh0_2e6 lh0_3e6 h => kcO (t5_0c0x0_eq _ _ _ _ _ _ _ _ _ _ _ _ _ _ _) (t5_0c0x0_mono (fun _ _ _ _ _ _ h => (ih _ _ _ _ _ _ h).out) (fun _ h => (hr0 _ h).out) (fun h => (hr1 h).out) _ _ _ _ _ _ _ _ _ _ _ _ _ h)) m _ _ _ _ _ _ _ h).out⟩) l8 x10 xh0_0 xh0_1 xh0_2 lh0_3 h)
def t5 (Q : List V1 → List Ob → Prop) (lp0 : K.ty k23 → K.ty k26 → K.ty (K.slice (4 : TypeId) K.bool) → Int → Prop) (p0 : K.ty k23) (p1 : K.ty k26) (p2 : K.ty (K.slice (4 : TypeId) K.bool)) : Prop :=
  (wideL p0 ∧ List.length (List.set (List.replicate (1 : Nat) (K.dflt (K.slice (4 : TypeId) K.bool))) (0 : Nat) p2) ≤ (4611686018427387904 : Nat)) ∧ ∀ (v3 : Int), isBit v3 → (v3 = (0 : Int) → okIn p0 p1 (List.set (List.replicate (1 : Nat) (K.dflt (K.slice (4 : TypeId) K.bool))) (0 : Nat) p2)) → brP (decide (v3 > (0 : Int))) (Q [V1.one (Lf.bool true)] []) (small p1 ∧ brP ((scanL p0 p2 p1).snd.snd != (0 : Int)) (Q [V1.one (Lf.bool ((scanL p0 p2 p1).snd.snd != (0 : Int)))] []) (brP ((↑(List.length (scanL p0 p2 p1).snd.fst) : Int) != (↑(List.length p0.snd.snd.snd) : Int)) (Q [V1.one (Lf.bool ((scanL p0 p2 p1).snd.snd != (0 : Int)))] []) (lp0 p0 p1 p2 v3)))
theorem t5_mono {Q : List V1 → List Ob → Prop} {Q' : List V1 → List Ob → Prop} {lp0 : K.ty k23 → K.ty k26 → K.ty (K.slice (4 : TypeId) K.bool) → Int → Prop} {lp0' : K.ty k23 → K.ty k26 → K.ty (K.slice (4 : TypeId) K.bool) → Int → Prop} (hq : ∀ r h, Q r h → Q' r h) (hlp0 : ∀ p0 p1 p2 v3, lp0 p0 p1 p2 v3 → lp0' p0 p1 p2 v3) (p0 : K.ty k23) (p1 : K.ty k26) (p2 : K.ty (K.slice (4 : TypeId) K.bool)) :
    t5 Q lp0 p0 p1 p2 → t5 Q' lp0' p0 p1 p2 :=
  andM (andM (id) (id)) (fun hh x => ap (hh x) (fun hh x => ap (hh x) (fun hh x => ap (hh x) (brM (hq _ _) (andM (id) (brM (hq _ _) (brM (hq _ _) (hlp0 _ _ _ _))))))))
theorem t5_eq (Q : List V1 → List Ob → Prop) (p0 : K.ty k23) (p1 : K.ty k26) (p2 : K.ty (K.slice (4 : TypeId) K.bool)) :
    t5 Q (fun p0 p1 p2 v3 => ∃ m, loopP (awp tt E5 A5 L5_0 0) ([(3 : Nat), (8 : Nat), (10 : Nat)], [], [(6 : Nat)]) m (S5_0 ((scanL p0 p2 p1).snd.fst) ((0 : Int)) (p0.fst) (p0.snd.fst) (p0.snd.snd.fst) (p0.snd.snd.snd)) (blkC (0 : Nat) (seqC (awp tt E5 A5 (Code.b (Code.b (Code.b (Code.b (Code.b (Func.code Try.f5)))))) (0 : Nat)) (topC tt Try.f5 0 Q)))) p0 p1 p2 = (afun tt E5 A5 Try.f5 (I5 p0 p1 p2) [] Q) := by kernel_rfl
def t5c0x1 (Q : List V1 → List Ob → Prop) (p0 : K.ty k23) (p1 : K.ty k26) (p2 : K.ty (K.slice (4 : TypeId) K.bool)) (v3 : Int) : Prop :=
  Q [V1.one (Lf.bool true)] []
theorem t5c0x1_mono {Q : List V1 → List Ob → Prop} {Q' : List V1 → List Ob → Prop} (hq : ∀ r h, Q r h → Q' r h) (p0 : K.ty k23) (p1 : K.ty k26) (p2 : K.ty (K.slice (4 : TypeId) K.bool)) (v3 : Int) :
    t5c0x1 Q p0 p1 p2 v3 → t5c0x1 Q' p0 p1 p2 v3 :=
  hq _ _
theorem t5c0x1_eq (Q : List V1 → List Ob → Prop) (p0 : K.ty k23) (p1 : K.ty k26) (p2 : K.ty (K.slice (4 : TypeId) K.bool)) (v3 : Int) :
    t5c0x1 Q p0 p1 p2 v3 = ((blkC (0 : Nat) (seqC (awp tt E5 A5 (Code.b (Code.b (Code.b (Code.b (Code.b (Func.code Try.f5)))))) (0 : Nat)) (topC tt Try.f5 0 Q))) (Ex.exit (nat_lit 0)) (X5_0_1)) := by kernel_rfl
def t5c0x0 (Q : List V1 → List Ob → Prop) (p0 : K.ty k23) (p1 : K.ty k26) (p2 : K.ty (K.slice (4 : TypeId) K.bool)) (v3 : Int) (b6e4 : Bool) : Prop :=
  Q [V1.one (Lf.bool b6e4)] []
theorem t5c0x0_mono {Q : List V1 → List Ob → Prop} {Q' : List V1 → List Ob → Prop} (hq : ∀ r h, Q r h → Q' r h) (p0 : K.ty k23) (p1 : K.ty k26) (p2 : K.ty (K.slice (4 : TypeId) K.bool)) (v3 : Int) (b6e4 : Bool) :
    t5c0x0 Q p0 p1 p2 v3 b6e4 → t5c0x0 Q' p0 p1 p2 v3 b6e4 :=
  hq _ _
theorem t5c0x0_eq (Q : List V1 → List Ob → Prop) (p0 : K.ty k23) (p1 : K.ty k26) (p2 : K.ty (K.slice (4 : TypeId) K.bool)) (v3 : Int) (b6e4 : Bool) :
    t5c0x0 Q p0 p1 p2 v3 b6e4 = ((blkC (0 : Nat) (seqC (awp tt E5 A5 (Code.b (Code.b (Code.b (Code.b (Code.b (Func.code Try.f5)))))) (0 : Nat)) (topC tt Try.f5 0 Q))) (Ex.ret) (X5_0_0 b6e4)) := by kernel_rfl
def H5 (Q : List V1 → List Ob → Prop) (p0 : K.ty k23) (p1 : K.ty k26) (p2 : K.ty (K.slice (4 : TypeId) K.bool)) : Prop := t5 Q (fun p0 p1 p2 v3 => ∃ m, G5_0 (fun b6e4 => t5c0x0 Q p0 p1 p2 v3 b6e4) ( t5c0x1 Q p0 p1 p2 v3) m ((scanL p0 p2 p1).snd.fst) ((0 : Int)) (p0.fst) (p0.snd.fst) (p0.snd.snd.fst) (p0.snd.snd.snd)) p0 p1 p2
theorem ok5 (Q : List V1 → List Ob → Prop) (p0 : K.ty k23) (p1 : K.ty k26) (p2 : K.ty (K.slice (4 : TypeId) K.bool)) (h : H5 Q p0 p1 p2) : Of (afun tt E5 A5 Try.f5 (I5 p0 p1 p2) [] Q) :=
  kcO (t5_eq Q p0 p1 p2) (t5_mono (fun _ _ h => h) (fun p0 p1 p2 v3 ⟨m, h⟩ => ⟨m, (T5_0 _ (fun b6e4 h => kcO (t5c0x0_eq _ _ _ _ _ _) (t5c0x0_mono (fun _ _ h => h) _ _ _ _ _ h)) (fun h => kcO (t5c0x1_eq _ _ _ _ _) (t5c0x1_mono (fun _ _ h => h) _ _ _ _ h)) m _ _ _ _ _ _ h).out⟩) p0 p1 p2 h)
theorem env5 : EnvOk Try.prog E5 := .cons spec8 (by kernel_rfl) <| .cons spec9 (by kernel_rfl) <| .cons spec11 (by kernel_rfl) <| .nil
theorem getE_at (d : List Bool) (i : Nat) : getE K.bool d (i : Int) = d.getD i false := by
  unfold getE
  rw [Int.toNat_natCast]
  rfl
theorem loop5_2 (d : List Bool) (x a b c : Int) (rs : List Rung) (R0 : List Bool → Int → Int → Int → Int → Int → List Rung → Prop) (hn : d.length ≤ 64) (m : Nat) (hm : m < d.length) (hd : d.getD m false = true) (h : R0 d x (m : Int) a b c rs) :
    ∀ n (i : Nat), m - i < n → i ≤ m → (∀ t, i ≤ t → t < m → d.getD t false = false) → G5_2 R0 n d x i a b c rs := by
  intro n
  induction n with
  | zero => intro i h; omega
  | succ n ih =>
    intro i hi him ht
    refine brP_intro (fun e => ⟨⟨by omega, by omega⟩, ?_⟩) (fun e => absurd (of_decide_eq_false e) (by omega))
    rw [getE_at]
    by_cases c : i = m
    · subst c
      rw [hd]
      exact h
    · rw [ht i (by omega) (by omega), wrap_in (x := (i : Int) + 1) (by omega) (by omega)]
      exact ih (i + 1) (by omega) (by omega) fun t a b => ht t (by omega) b
theorem loop5 (l : Lad) (d : List Bool) (R0 : Bool → Prop) (R1 : Prop) (hl : d.length = l.rungs.length) (hn : d.length ≤ 64) (h1 : R1)
    (hj : ∀ j, j + 1 < l.rungs.length → d.getD j false = true → d.getD (j + 1) false = false → Jumped l d j) :
    ∀ n (i : Nat), d.length - i < n → i ≤ d.length → G5_0 R0 R1 n d i l.1 l.2.1 l.2.2.1 l.rungs := by
  intro n
  induction n with
  | zero => intro i h; omega
  | succ n ih =>
    intro i hi hil
    refine brP_intro (fun e => ?_) (fun e => h1)
    have hlt : i < d.length := by simpa using e
    have hw : IntKind.wrap IntKind.i64 ((i : Int) + 1) = ((i + 1 : Nat) : Int) := by rw [wrap_in (by omega) (by omega)]; omega
    rw [getE_at, hw]
    refine ⟨⟨by omega, by omega⟩, brP_intro (fun c => ih (i + 1) (by omega) (by omega)) (fun c => ?_)⟩
    have c : d.getD i false = true := by simpa using c
    refine brP_intro (fun e2 => ih (i + 1) (by omega) (by omega)) (fun e2 => ?_)
    have e2 : ¬ ((i + 1 : Nat) : Int) ≥ (d.length : Int) := of_decide_eq_false e2
    rw [getE_at]
    refine ⟨⟨by omega, by omega⟩, brP_intro (fun c2 => ih (i + 1) (by omega) (by omega)) (fun c2 => ?_)⟩
    obtain ⟨m, m1, m2, m3, m4, m5, m6⟩ := hj i (by omega) c c2
    have hb : ∀ x y : ByteArray, (x.toList == y.toList) = decide (x = y) := fun x y => strEq x y
    refine ⟨m + 1, ?_⟩
    rw [hw]
    refine loop5_2 d i l.1 l.2.1 l.2.2.1 l.rungs _ hn m m2 m3 ?_ (m + 1) (i + 1) (by omega) (by omega) fun t a b => m4 t (by omega) b
    refine brP_intro (fun c3 => ?_) (fun c3 => ⟨⟨by omega, by omega⟩, ?_⟩)
    · have c3 : ((m : Nat) : Int) = ((d.length : Nat) : Int) := by simpa using c3
      omega
    · refine brP_intro (fun c4 => ?_) (fun c4 => ⟨⟨by omega, by omega⟩, ⟨by omega, by omega⟩, ?_⟩)
      · rw [hb] at c4
        exact absurd (of_decide_eq_true c4) m5
      · refine brP_intro (fun c5 => ?_) (fun c5 => ?_)
        · rw [bne, hb] at c5
          have c6 : ¬ (getE k45 l.rungs ↑m).fst = (getE k45 l.rungs ↑i).snd.snd.snd := by simpa using c5
          exact absurd m6 c6
        · rw [hw]; exact ih (i + 1) (by omega) (by omega)
theorem small_of_big {s : Sta} (h : bigS s = false) : small s := by
  unfold bigS at h
  simp only [Bool.or_eq_false_iff, decide_eq_false_iff_not] at h
  exact ⟨by omega, by omega, by omega⟩
theorem spec5 : SpecOk Try.prog 5 sp5 := S3.ok tt_ok mixed env5 Try.func5 fun (l : Lad) (st : Sta) (inp : List Bool) Q h => ok5 Q l st inp <| by
  obtain ⟨h1, hq⟩ := h
  refine ⟨⟨h1, by simp⟩, fun v hv hok => brP_intro (fun c => hq) (fun c => ?_)⟩
  have c : ¬ v > 0 := of_decide_eq_false c
  have v0 : v = 0 := by rcases hv with h | h <;> omega
  obtain ⟨o1, o2, o3, o4⟩ := hok v0
  refine ⟨small_of_big o2, brP_intro (fun e => ?_) (fun e => ?_)⟩
  · rw [e]; exact hq
  · have e : (scanL l inp st).2.2 = 0 := by simpa using e
    obtain ⟨d1, d2, d3, d4⟩ := scanL_did e
    refine brP_intro (fun e2 => ?_) (fun e2 => ?_)
    · have e2 : ¬ (((scanL l inp st).2.1.length : Nat) : Int) = ((l.rungs.length : Nat) : Int) := by simpa using e2
      omega
    · exact ⟨(scanL l inp st).2.1.length + 1, loop5 l _ _ _ d1 (by omega) hq d4 _ 0 (by omega) (by omega)⟩
end Go.AM
namespace Go.AM
open Go.Proofs
/-- pathmodel.Run -/
def runGo (l : Lad) : List (List Bool) → Nat → Sta → List Sta → List Sta × Int × Int
  | [], i, _, acc => (acc, i, 0)
  | x :: r, i, s, acc => bif (scanL l x s).2.2 != 0 then ([], i, (scanL l x s).2.2) else runGo l r (i + 1) (scanL l x s).1 (acc ++ [(scanL l x s).1])
def runL (l : Lad) (st : Sta) (ins : List (List Bool)) : List Sta × Int × Int := runGo l ins 0 st []
abbrev kSs : K := .slice 27 k26
def F18 (l : Lad) (st : Sta) (ins : List (List Bool)) (Q : QT) : Prop :=
  (small st ∧ ins.length ≤ 1000) ∧ Q [nfK kSs (runL l st ins).1, .one (.int .i64 (runL l st ins).2.1), .one (.int .i64 (runL l st ins).2.2)] []
def sp18 : PT := S3 k23 k26 kIns F18
end Go.AM
namespace Go.AM
open Go.Proofs
/-! the references -/
def sp72 : PT := S1 (.int .u8) F68
def sp62 : PT := S1 .str F53
def sp10 : PT := S1 k26 F25
def sp10s : PT := S1 k26 F25s
def sp65 : PT := S3 kbs k26 k72 F58
def F66 (l : List Bool) (n : Int) (v : Bool) (Q : QT) : Prop := (l.length ≤ 1000000000000 ∧ bound n l.length) ∧ Q [.one (.sl 4 .bool (l.set n.toNat v))] []
def sp66 : PT := S3 kbs ki .bool F66
def sp67 : PT := S3 k26 k72 .bool F61
def sp32 : PT := S1 k45 F31
def sp17 : PT := S1 k23 F16
def F47 (l : Lad) (i : Int) (s : ByteArray) (Q : QT) : Prop := (bound i l.rungs.length ∧ l.rungs.length ≤ 1000000) ∧ Q [.one (.bool (decide (0 ≤ idxP (fun r => decide (Rung.label r = s)) (l.rungs.drop (i + 1).toNat) 0)))] []
def sp47 : PT := S3 k23 ki .str F47
def F63 (s : k59.ty) (r : Rung) (Q : QT) : Prop := Q [.one (.int .i64 (bif decide (r.contacts.length > 256) then 10 else consE s r.contacts))] []
def sp63 : PT := S2 k59 k45 F63
def F64 (s : k59.ty) (r : Rung) (Q : QT) : Prop := Q [.one (.int .i64 (bif decide (r.coils.length > 16) then 10 else coisE s r.coils))] []
def sp64 : PT := S2 k59 k45 F64
def F46 (l : Lad) (i : Int) (Q : QT) : Prop := (bound i l.rungs.length ∧ l.rungs.length ≤ 1000000) ∧ Q [.one (.int .i64 (rungE (sizesOf l) (l.rungs.take i.toNat) (getE k45 l.rungs i)))] []
def sp46 : PT := S2 k23 ki F46
def sp28 : PT := S1 k23 F23
def sp48 : PT := S4 k45 kbs k26 ki F43
def sp49 : PT := S2 k45 kbs F44
def sp50 : PT := S3 k45 k26 .bool F45
def sp29 : PT := S4 k45 kbs k26 ki F27
def sp12 : PT := S3 k23 kbs k26 F11
def sp19 : PT := S3 k23 k26 kIns F18
end Go.AM
namespace Go.AM
open Go.Proofs
-- f18 "busbar/pathmodel.Run" ['24', '27', '28'] -> ['48', '3', '32']
def A18 : Ann := [(0, [2, 3, 4, 9, 15, 16, 17], [2, 9], [6, 7, 8])]
def E18 : Env := [(11, sp11), (25, sp25s)]
def I18 (p0 : (k23 : K).ty) (p1 : (k26 : K).ty) (p2 : ((.slice 25 (.slice 4 .bool)) : K).ty) : List V1 := [nfK k23 p0, nfK k26 p1, nfK (.slice 25 (.slice 4 .bool)) p2]
noncomputable def L18_0 : Code := Code.a (Code.a (Code.b (Code.a (Code.b (Code.b (Func.code Try.f18))))))
def S18_0 (l2 : List (K.ty (K.slice (4 : TypeId) K.bool))) (l15 : List (K.ty (K.slice (4 : TypeId) K.bool))) (x16 : Int) (x17 : Int) (xh0_0 : Int) (xh0_1 : Int) (xh0_2 : Int) (lh0_3 : List (K.ty k45)) (lh1_0 : List (K.ty K.bool)) (lh1_1 : List (K.ty K.bool)) (lh1_2 : List (K.ty K.bool)) (w2 : List (K.ty k26)) : St := sp (44 : Nat) [((2 : Nat), V.v (V1.one (Lf.sl (25 : TypeId) (K.slice (4 : TypeId) K.bool) l2))), ((3 : Nat), V.v (V1.one (Lf.ptr (nat_lit 0) (nat_lit 0)))), ((4 : Nat), V.v (V1.one (Lf.ptr (nat_lit 1) (nat_lit 0)))), ((9 : Nat), V.v (V1.one (Lf.own (nat_lit 2)))), ((15 : Nat), V.v (V1.one (Lf.sl (25 : TypeId) (K.slice (4 : TypeId) K.bool) l15))), ((16 : Nat), V.v (V1.one (Lf.int IntKind.i64 x16))), ((17 : Nat), V.v (V1.one (Lf.int IntKind.i64 x17)))] [Ob.box (24 : Nat) [Lf.int IntKind.i64 xh0_0, Lf.int IntKind.i64 xh0_1, Lf.int IntKind.i64 xh0_2, Lf.sl (46 : TypeId) k45 lh0_3], Ob.box (27 : Nat) [Lf.sl (4 : TypeId) K.bool lh1_0, Lf.sl (4 : TypeId) K.bool lh1_1, Lf.sl (4 : TypeId) K.bool lh1_2], Ob.row (27 : TypeId) k26 w2]
def X18_0_0 (x7 : Int) (x8 : Int) (w0 : List (K.ty k26)) : St := sp (44 : Nat) [((6 : Nat), V.v (V1.one (Lf.own (nat_lit 0)))), ((7 : Nat), V.v (V1.one (Lf.int IntKind.i64 x7))), ((8 : Nat), V.v (V1.one (Lf.int IntKind.i64 x8)))] [Ob.row (27 : TypeId) k26 w0]
def X18_0_1 (l2 : List (K.ty (K.slice (4 : TypeId) K.bool))) (w0 : List (K.ty k26)) : St := sp (44 : Nat) [((2 : Nat), V.v (V1.one (Lf.sl (25 : TypeId) (K.slice (4 : TypeId) K.bool) l2))), ((9 : Nat), V.v (V1.one (Lf.own (nat_lit 0))))] [Ob.row (27 : TypeId) k26 w0]
def t18_0 (again : List (K.ty (K.slice (4 : TypeId) K.bool)) → List (K.ty (K.slice (4 : TypeId) K.bool)) → Int → Int → Int → Int → Int → List (K.ty k45) → List (K.ty K.bool) → List (K.ty K.bool) → List (K.ty K.bool) → List (K.ty k26) → Prop) (R0 : Int → Int → List (K.ty k26) → Prop) (R1 : List (K.ty (K.slice (4 : TypeId) K.bool)) → List (K.ty k26) → Prop) (l2 : List (K.ty (K.slice (4 : TypeId) K.bool))) (l15 : List (K.ty (K.slice (4 : TypeId) K.bool))) (x16 : Int) (x17 : Int) (xh0_0 : Int) (xh0_1 : Int) (xh0_2 : Int) (lh0_3 : List (K.ty k45)) (lh1_0 : List (K.ty K.bool)) (lh1_1 : List (K.ty K.bool)) (lh1_2 : List (K.ty K.bool)) (w2 : List (K.ty k26)) : Prop :=
  brP (decide (x17 < x16)) (bound x17 (List.length l15) ∧ small (lh1_0, lh1_1, lh1_2) ∧ brP ((scanL (xh0_0, xh0_1, xh0_2, lh0_3) (getE (K.slice (4 : TypeId) K.bool) l15 x17) (lh1_0, lh1_1, lh1_2)).snd.snd != (0 : Int)) (R0 x17 (scanL (xh0_0, xh0_1, xh0_2, lh0_3) (getE (K.slice (4 : TypeId) K.bool) l15 x17) (lh1_0, lh1_1, lh1_2)).snd.snd []) (small (scanL (xh0_0, xh0_1, xh0_2, lh0_3) (getE (K.slice (4 : TypeId) K.bool) l15 x17) (lh1_0, lh1_1, lh1_2)).fst ∧ room tt (27 : TypeId) (List.length w2 + List.length (List.set (List.replicate (1 : Nat) (K.dflt k26)) (0 : Nat) (scanL (xh0_0, xh0_1, xh0_2, lh0_3) (getE (K.slice (4 : TypeId) K.bool) l15 x17) (lh1_0, lh1_1, lh1_2)).fst)) ∧ again l2 l15 x16 (IntKind.wrap IntKind.i64 (x17 + (1 : Int))) xh0_0 xh0_1 xh0_2 lh0_3 (scanL (xh0_0, xh0_1, xh0_2, lh0_3) (getE (K.slice (4 : TypeId) K.bool) l15 x17) (lh1_0, lh1_1, lh1_2)).fst.fst (scanL (xh0_0, xh0_1, xh0_2, lh0_3) (getE (K.slice (4 : TypeId) K.bool) l15 x17) (lh1_0, lh1_1, lh1_2)).fst.snd.fst (scanL (xh0_0, xh0_1, xh0_2, lh0_3) (getE (K.slice (4 : TypeId) K.bool) l15 x17) (lh1_0, lh1_1, lh1_2)).fst.snd.snd (w2 ++ List.set (List.replicate (1 : Nat) (K.dflt k26)) (0 : Nat) (scanL (xh0_0, xh0_1, xh0_2, lh0_3) (getE (K.slice (4 : TypeId) K.bool) l15 x17) (lh1_0, lh1_1, lh1_2)).fst))) (R1 l2 w2)
theorem t18_0_mono {again : List (K.ty (K.slice (4 : TypeId) K.bool)) → List (K.ty (K.slice (4 : TypeId) K.bool)) → Int → Int → Int → Int → Int → List (K.ty k45) → List (K.ty K.bool) → List (K.ty K.bool) → List (K.ty K.bool) → List (K.ty k26) → Prop} {R0 : Int → Int → List (K.ty k26) → Prop} {R1 : List (K.ty (K.slice (4 : TypeId) K.bool)) → List (K.ty k26) → Prop} {again' : List (K.ty (K.slice (4 : TypeId) K.bool)) → List (K.ty (K.slice (4 : TypeId) K.bool)) → Int → Int → Int → Int → Int → List (K.ty k45) → List (K.ty K.bool) → List (K.ty K.bool) → List (K.ty K.bool) → List (K.ty k26) → Prop} {R0' : Int → Int → List (K.ty k26) → Prop} {R1' : List (K.ty (K.slice (4 : TypeId) K.bool)) → List (K.ty k26) → Prop} (ha : ∀ l2 l15 x16 x17 xh0_0 xh0_1 xh0_2 lh0_3 lh1_0 lh1_1 lh1_2 w2, again l2 l15 x16 x17 xh0_0 xh0_1 xh0_2 lh0_3 lh1_0 lh1_1 lh1_2 w2 → again' l2 l15 x16 x17 xh0_0 xh0_1 xh0_2 lh0_3 lh1_0 lh1_1 lh1_2 w2) (hr0 : ∀ x7 x8 w0, R0 x7 x8 w0 → R0' x7 x8 w0) (hr1 : ∀ l2 w0, R1 l2 w0 → R1' l2 w0) (l2 : List (K.ty (K.slice (4 : TypeId) K.bool))) (l15 : List (K.ty (K.slice (4 : TypeId) K.bool))) (x16 : Int) (x17 : Int) (xh0_0 : Int) (xh0_1 : Int) (xh0_2 : Int) (lh0_3 : List (K.ty k45)) (lh1_0 : List (K.ty K.bool)) (lh1_1 : List (K.ty K.bool)) (lh1_2 : List (K.ty K.bool)) (w2 : List (K.ty k26)) :
    t18_0 again R0 R1 l2 l15 x16 x17 xh0_0 xh0_1 xh0_2 lh0_3 lh1_0 lh1_1 lh1_2 w2 → t18_0 again' R0' R1' l2 l15 x16 x17 xh0_0 xh0_1 xh0_2 lh0_3 lh1_0 lh1_1 lh1_2 w2 :=
  brM (andM (id) (andM (id) (brM (hr0 _ _ _) (andM (id) (andM (id) (ha _ _ _ _ _ _ _ _ _ _ _ _)))))) (hr1 _ _)
theorem t18_0_eq (n : Nat) (Q : Ex → St → Prop) (l2 : List (K.ty (K.slice (4 : TypeId) K.bool))) (l15 : List (K.ty (K.slice (4 : TypeId) K.bool))) (x16 : Int) (x17 : Int) (xh0_0 : Int) (xh0_1 : Int) (xh0_2 : Int) (lh0_3 : List (K.ty k45)) (lh1_0 : List (K.ty K.bool)) (lh1_1 : List (K.ty K.bool)) (lh1_2 : List (K.ty K.bool)) (w2 : List (K.ty k26)) :
    t18_0 (fun l2 l15 x16 x17 xh0_0 xh0_1 xh0_2 lh0_3 lh1_0 lh1_1 lh1_2 w2 => loopP (awp tt E18 A18 L18_0 0) ([(2 : Nat), (3 : Nat), (4 : Nat), (9 : Nat), (15 : Nat), (16 : Nat), (17 : Nat)], [(2 : Nat), (9 : Nat)], [(6 : Nat), (7 : Nat), (8 : Nat)]) n (S18_0 l2 l15 x16 x17 xh0_0 xh0_1 xh0_2 lh0_3 lh1_0 lh1_1 lh1_2 w2) Q) (fun x7 x8 w0 => Q (Ex.ret) (X18_0_0 x7 x8 w0)) (fun l2 w0 => Q (Ex.exit (nat_lit 0)) (X18_0_1 l2 w0)) l2 l15 x16 x17 xh0_0 xh0_1 xh0_2 lh0_3 lh1_0 lh1_1 lh1_2 w2 = (loopP (awp tt E18 A18 L18_0 0) ([(2 : Nat), (3 : Nat), (4 : Nat), (9 : Nat), (15 : Nat), (16 : Nat), (17 : Nat)], [(2 : Nat), (9 : Nat)], [(6 : Nat), (7 : Nat), (8 : Nat)]) (n + 1) (S18_0 l2 l15 x16 x17 xh0_0 xh0_1 xh0_2 lh0_3 lh1_0 lh1_1 lh1_2 w2) Q) := by kernel_rfl
def G18_0 (R0 : Int → Int → List (K.ty k26) → Prop) (R1 : List (K.ty (K.slice (4 : TypeId) K.bool)) → List (K.ty k26) → Prop) : Nat → List (K.ty (K.slice (4 : TypeId) K.bool)) → List (K.ty (K.slice (4 : TypeId) K.bool)) → Int → Int → Int → Int → Int → List (K.ty k45) → List (K.ty K.bool) → List (K.ty K.bool) → List (K.ty K.bool) → List (K.ty k26) → Prop
  | 0, _, _, _, _, _, _, _, _, _, _, _, _ => False
  | n + 1, l2, l15, x16, x17, xh0_0, xh0_1, xh0_2, lh0_3, lh1_0, lh1_1, lh1_2, w2 => t18_0 (G18_0 R0 R1 n) R0 R1 l2 l15 x16 x17 xh0_0 xh0_1 xh0_2 lh0_3 lh1_0 lh1_1 lh1_2 w2
theorem T18_0 {R0 : Int → Int → List (K.ty k26) → Prop} {R1 : List (K.ty (K.slice (4 : TypeId) K.bool)) → List (K.ty k26) → Prop} (Q : Ex → St → Prop) (hr0 : ∀ x7 x8 w0, R0 x7 x8 w0 → Of (Q (Ex.ret) (X18_0_0 x7 x8 w0))) (hr1 : ∀ l2 w0, R1 l2 w0 → Of (Q (Ex.exit (nat_lit 0)) (X18_0_1 l2 w0))) : ∀ (n : Nat) (l2 : List (K.ty (K.slice (4 : TypeId) K.bool))) (l15 : List (K.ty (K.slice (4 : TypeId) K.bool))) (x16 : Int) (x17 : Int) (xh0_0 : Int) (xh0_1 : Int) (xh0_2 : Int) (lh0_3 : List (K.ty k45)) (lh1_0 : List (K.ty K.bool)) (lh1_1 : List (K.ty K.bool)) (lh1_2 : List (K.ty K.bool)) (w2 : List (K.ty k26)), G18_0 R0 R1 n l2 l15 x16 x17 xh0_0 xh0_1 xh0_2 lh0_3 lh1_0 lh1_1 lh1_2 w2 → Of (loopP (awp tt E18 A18 L18_0 0) ([(2 : Nat), (3 : Nat), (4 : Nat), (9 : Nat), (15 : Nat), (16 : Nat), (17 : Nat)], [(2 : Nat), (9 : Nat)], [(6 : Nat), (7 : Nat), (8 : Nat)]) n (S18_0 l2 l15 x16 x17 xh0_0 xh0_1 xh0_2 lh0_3 lh1_0 lh1_1 lh1_2 w2) Q) := by
  intro n
  induction n with
  | zero => intro l2 l15 x16 x17 xh0_0 xh0_1 xh0_2 lh0_3 lh1_0 lh1_1 lh1_2 w2 h; exact h.elim
  | succ n ih =>
    intro l2 l15 x16 x17 xh0_0 xh0_1 xh0_2 lh0_3 lh1_0 lh1_1 lh1_2 w2 h
    exact kcO (t18_0_eq n Q l2 l15 x16 x17 xh0_0 xh0_1 xh0_2 lh0_3 lh1_0 lh1_1 lh1_2 w2) (t18_0_mono (fun _ _ _ _ _ _ _ _ _ _ _ _ h => (ih _ _ _ _ _ _ _ _ _ _ _ _ h).out) (fun _ _ _ h => (hr0 _ _ _ h).out) (fun _ _ h => (hr1 _ _ h).out) l2 l15 x16 x17 xh0_0 xh0_1 xh0_2 lh0_3 lh1_0 lh1_1 lh1_2 w2 h)
def t18 (Q : List V1 → List Ob → Prop) (lp0 : K.ty k23 → K.ty k26 → K.ty (K.slice (25 : TypeId) (K.slice (4 : TypeId) K.bool)) → Prop) (p0 : K.ty k23) (p1 : K.ty k26) (p2 : K.ty (K.slice (25 : TypeId) (K.slice (4 : TypeId) K.bool))) : Prop :=
  lp0 p0 p1 p2
theorem t18_mono {Q : List V1 → List Ob → Prop} {Q' : List V1 → List Ob → Prop} {lp0 : K.ty k23 → K.ty k26 → K.ty (K.slice (25 : TypeId) (K.slice (4 : TypeId) K.bool)) → Prop} {lp0' : K.ty k23 → K.ty k26 → K.ty (K.slice (25 : TypeId) (K.slice (4 : TypeId) K.bool)) → Prop} (hq : ∀ r h, Q r h → Q' r h) (hlp0 : ∀ p0 p1 p2, lp0 p0 p1 p2 → lp0' p0 p1 p2) (p0 : K.ty k23) (p1 : K.ty k26) (p2 : K.ty (K.slice (25 : TypeId) (K.slice (4 : TypeId) K.bool))) :
    t18 Q lp0 p0 p1 p2 → t18 Q' lp0' p0 p1 p2 :=
  hlp0 _ _ _
theorem t18_eq (Q : List V1 → List Ob → Prop) (p0 : K.ty k23) (p1 : K.ty k26) (p2 : K.ty (K.slice (25 : TypeId) (K.slice (4 : TypeId) K.bool))) :
    t18 Q (fun p0 p1 p2 => ∃ m, loopP (awp tt E18 A18 L18_0 0) ([(2 : Nat), (3 : Nat), (4 : Nat), (9 : Nat), (15 : Nat), (16 : Nat), (17 : Nat)], [(2 : Nat), (9 : Nat)], [(6 : Nat), (7 : Nat), (8 : Nat)]) m (S18_0 (p2) (p2) ((↑(List.length p2) : Int)) ((0 : Int)) (p0.fst) (p0.snd.fst) (p0.snd.snd.fst) (p0.snd.snd.snd) (p1.fst) (p1.snd.fst) (p1.snd.snd) ([])) (blkC (0 : Nat) (seqC (awp tt E18 A18 (Code.b (Code.b (Code.b (Func.code Try.f18)))) (0 : Nat)) (topC tt Try.f18 0 Q)))) p0 p1 p2 = (afun tt E18 A18 Try.f18 (I18 p0 p1 p2) [] Q) := by kernel_rfl
def t18c0x1 (Q : List V1 → List Ob → Prop) (p0 : K.ty k23) (p1 : K.ty k26) (p2 : K.ty (K.slice (25 : TypeId) (K.slice (4 : TypeId) K.bool))) (l2e3 : List (K.ty (K.slice (4 : TypeId) K.bool))) (w0e3 : List (K.ty k26)) : Prop :=
  Q [V1.one (Lf.own (0 : Nat)), V1.one (Lf.int IntKind.i64 (↑(List.length l2e3) : Int)), V1.one (Lf.int IntKind.i64 (0 : Int))] [Ob.row (27 : TypeId) k26 w0e3]
theorem t18c0x1_mono {Q : List V1 → List Ob → Prop} {Q' : List V1 → List Ob → Prop} (hq : ∀ r h, Q r h → Q' r h) (p0 : K.ty k23) (p1 : K.ty k26) (p2 : K.ty (K.slice (25 : TypeId) (K.slice (4 : TypeId) K.bool))) (l2e3 : List (K.ty (K.slice (4 : TypeId) K.bool))) (w0e3 : List (K.ty k26)) :
    t18c0x1 Q p0 p1 p2 l2e3 w0e3 → t18c0x1 Q' p0 p1 p2 l2e3 w0e3 :=
  hq _ _
theorem t18c0x1_eq (Q : List V1 → List Ob → Prop) (p0 : K.ty k23) (p1 : K.ty k26) (p2 : K.ty (K.slice (25 : TypeId) (K.slice (4 : TypeId) K.bool))) (l2e3 : List (K.ty (K.slice (4 : TypeId) K.bool))) (w0e3 : List (K.ty k26)) :
    t18c0x1 Q p0 p1 p2 l2e3 w0e3 = ((blkC (0 : Nat) (seqC (awp tt E18 A18 (Code.b (Code.b (Code.b (Func.code Try.f18)))) (0 : Nat)) (topC tt Try.f18 0 Q))) (Ex.exit (nat_lit 0)) (X18_0_1 l2e3 w0e3)) := by kernel_rfl
def t18c0x0 (Q : List V1 → List Ob → Prop) (p0 : K.ty k23) (p1 : K.ty k26) (p2 : K.ty (K.slice (25 : TypeId) (K.slice (4 : TypeId) K.bool))) (x7e3 : Int) (x8e3 : Int) (w0e3 : List (K.ty k26)) : Prop :=
  Q [V1.one (Lf.own (0 : Nat)), V1.one (Lf.int IntKind.i64 x7e3), V1.one (Lf.int IntKind.i64 x8e3)] [Ob.row (27 : TypeId) k26 w0e3]
theorem t18c0x0_mono {Q : List V1 → List Ob → Prop} {Q' : List V1 → List Ob → Prop} (hq : ∀ r h, Q r h → Q' r h) (p0 : K.ty k23) (p1 : K.ty k26) (p2 : K.ty (K.slice (25 : TypeId) (K.slice (4 : TypeId) K.bool))) (x7e3 : Int) (x8e3 : Int) (w0e3 : List (K.ty k26)) :
    t18c0x0 Q p0 p1 p2 x7e3 x8e3 w0e3 → t18c0x0 Q' p0 p1 p2 x7e3 x8e3 w0e3 :=
  hq _ _
theorem t18c0x0_eq (Q : List V1 → List Ob → Prop) (p0 : K.ty k23) (p1 : K.ty k26) (p2 : K.ty (K.slice (25 : TypeId) (K.slice (4 : TypeId) K.bool))) (x7e3 : Int) (x8e3 : Int) (w0e3 : List (K.ty k26)) :
    t18c0x0 Q p0 p1 p2 x7e3 x8e3 w0e3 = ((blkC (0 : Nat) (seqC (awp tt E18 A18 (Code.b (Code.b (Code.b (Func.code Try.f18)))) (0 : Nat)) (topC tt Try.f18 0 Q))) (Ex.ret) (X18_0_0 x7e3 x8e3 w0e3)) := by kernel_rfl
def H18 (Q : List V1 → List Ob → Prop) (p0 : K.ty k23) (p1 : K.ty k26) (p2 : K.ty (K.slice (25 : TypeId) (K.slice (4 : TypeId) K.bool))) : Prop := t18 Q (fun p0 p1 p2 => ∃ m, G18_0 (fun x7e3 x8e3 w0e3 => t18c0x0 Q p0 p1 p2 x7e3 x8e3 w0e3) (fun l2e3 w0e3 => t18c0x1 Q p0 p1 p2 l2e3 w0e3) m (p2) (p2) ((↑(List.length p2) : Int)) ((0 : Int)) (p0.fst) (p0.snd.fst) (p0.snd.snd.fst) (p0.snd.snd.snd) (p1.fst) (p1.snd.fst) (p1.snd.snd) ([])) p0 p1 p2
theorem ok18 (Q : List V1 → List Ob → Prop) (p0 : K.ty k23) (p1 : K.ty k26) (p2 : K.ty (K.slice (25 : TypeId) (K.slice (4 : TypeId) K.bool))) (h : H18 Q p0 p1 p2) : Of (afun tt E18 A18 Try.f18 (I18 p0 p1 p2) [] Q) :=
  kcO (t18_eq Q p0 p1 p2) (t18_mono (fun _ _ h => h) (fun p0 p1 p2 ⟨m, h⟩ => ⟨m, (T18_0 _ (fun x7e3 x8e3 w0e3 h => kcO (t18c0x0_eq _ _ _ _ _ _ _) (t18c0x0_mono (fun _ _ h => h) _ _ _ _ _ _ h)) (fun l2e3 w0e3 h => kcO (t18c0x1_eq _ _ _ _ _ _) (t18c0x1_mono (fun _ _ h => h) _ _ _ _ _ h)) m _ _ _ _ _ _ _ _ _ _ _ _ h).out⟩) p0 p1 p2 h)
theorem env18 : EnvOk Try.prog E18 := .cons spec11 (by kernel_rfl) <| .cons spec25s (by kernel_rfl) <| .nil
theorem scanGo_small (l : Lad) (inp : List Bool) : ∀ (k i : Nat) (s : Sta) (did : List Bool), small s → small (scanGo l inp k i s did).1
  | 0, _, _, _, h => h
  | k + 1, i, s, did, h => by
    simp only [scanGo]
    cases decide (l.rungs.length ≤ i) with
    | true => exact h
    | false =>
      simp only [cond_false]
      cases ((scanR (getE k45 l.rungs i) inp s (getE ki (basesFrom 0 l.rungs) i)).2.2 != 0) with
      | true => exact small_zero
      | false => exact scanGo_small l inp k _ _ _ (scanR_small h _ _ _)
theorem scanL_small {s : Sta} (h : small s) (l : Lad) (inp : List Bool) : small (scanL l inp s).1 := by
  unfold scanL
  cases ((checkL l).2 != 0) with
  | true => exact small_zero
  | false =>
    cases (!decide ((inp.length : Int) = l.1) || !fits (sizeE l) s) with
    | true => exact small_zero
    | false => exact scanGo_small l inp _ _ _ _ h
theorem runGo_count (l : Lad) : ∀ (xs : List (List Bool)) (i : Nat) (s : Sta) (acc : List Sta), (runGo l xs i s acc).2.2 = 0 → (runGo l xs i s acc).2.1 = ((i + xs.length : Nat) : Int)
  | [], i, s, acc, _ => by simp [runGo]
  | x :: r, i, s, acc, h => by
    simp only [runGo] at h ⊢
    cases hc : (scanL l x s).2.2 != 0 with
    | true => rw [hc] at h; simp only [cond_true] at h; rw [h] at hc; cases hc
    | false =>
      rw [hc] at h
      simp only [cond_false] at h ⊢
      rw [runGo_count l r _ _ _ h, List.length_cons]
      congr 1; omega
theorem room27 {n : Nat} (h : n ≤ 1000000) : room tt 27 n := by
  show n * 72 ≤ 140737488355328; omega
theorem loop18 (l : Lad) (ins : List (List Bool)) (R0 : Int → Int → List Sta → Prop) (R1 : List (List Bool) → List Sta → Prop) (hl : ins.length ≤ 1000) :
    ∀ n (i : Nat) (s : Sta) (acc : List Sta), ins.length - i < n → i ≤ ins.length → acc.length ≤ i → small s →
      ((runGo l (ins.drop i) i s acc).2.2 ≠ 0 → R0 (runGo l (ins.drop i) i s acc).2.1 (runGo l (ins.drop i) i s acc).2.2 (runGo l (ins.drop i) i s acc).1) →
      ((runGo l (ins.drop i) i s acc).2.2 = 0 → R1 ins (runGo l (ins.drop i) i s acc).1) →
      G18_0 R0 R1 n ins ins ins.length i l.1 l.2.1 l.2.2.1 l.rungs s.1 s.2.1 s.2.2 acc := by
  intro n
  induction n with
  | zero => intro i s acc h; omega
  | succ n ih =>
    intro i s acc hn hi ha hs h0 h1
    refine brP_intro (fun c => ?_) (fun c => ?_)
    · have c : i < ins.length := by simpa using c
      rw [getE_cons kbs ins i c] at h0 h1
      simp only [runGo] at h0 h1
      refine ⟨⟨by omega, by omega⟩, hs, ?_⟩
      refine brP_intro (fun d => ?_) (fun d => ?_)
      · have d : ((scanL l (getE kbs ins i) s).2.2 != 0) = true := d
        rw [d] at h0
        exact h0 (by simpa using d)
      · have d : ((scanL l (getE kbs ins i) s).2.2 != 0) = false := d
        rw [d] at h0 h1
        have hw : IntKind.i64.wrap ((i : Int) + 1) = ((i + 1 : Nat) : Int) := by rw [wrap_in (by omega) (by omega)]; omega
        refine ⟨scanL_small hs l _, room27 ?_, ?_⟩
        · rw [List.length_set, List.length_replicate]; omega
        · rw [hw]
          exact ih (i + 1) (scanL l (getE kbs ins i) s).1 (acc ++ [(scanL l (getE kbs ins i) s).1]) (by omega) (by omega) (by rw [List.length_append, List.length_singleton]; omega) (scanL_small hs l _) h0 h1
    · have c : ¬ i < ins.length := by simpa using c
      rw [List.drop_of_length_le (by omega)] at h1
      exact h1 rfl
theorem runGo_bad (l : Lad) : ∀ (xs : List (List Bool)) (i : Nat) (s : Sta) (acc : List Sta), (runGo l xs i s acc).2.2 ≠ 0 → (runGo l xs i s acc).1 = []
  | [], i, s, acc, h => by simp [runGo] at h
  | x :: r, i, s, acc, h => by
    simp only [runGo] at h ⊢
    cases hc : (scanL l x s).2.2 != 0 with
    | true => rfl
    | false =>
      rw [hc] at h
      exact runGo_bad l r _ _ _ h
theorem spec18 : SpecOk Try.prog 18 sp18 := S3.okS tt_ok mixed [kSs, ki, ki] env18 Try.func18 fun (l : Lad) (st : Sta) (ins : List (List Bool)) Q h => ok18 _ l st ins <| by
  obtain ⟨⟨hs, hl⟩, h⟩ := h
  have hlen := loop18 l ins (fun a b c => t18c0x0 (SQ [kSs, ki, ki] Q) l st ins a b c) (fun a b => t18c0x1 (SQ [kSs, ki, ki] Q) l st ins a b) hl (ins.length + 1) 0 st [] (by omega) (by omega) (by simp) hs (fun h0 => ?_) (fun h0 => ?_)
  · exact ⟨_, hlen⟩
  · rw [List.drop_zero] at h0 ⊢
    exact h
  · rw [List.drop_zero] at h0 ⊢
    have hc := runGo_count l ins 0 st [] h0
    have h : Q [nfK kSs (runGo l ins 0 st []).1, .one (.int .i64 (runGo l ins 0 st []).2.1), .one (.int .i64 (runGo l ins 0 st []).2.2)] [] := h
    rw [h0, hc, Nat.zero_add] at h
    exact h
end Go.AM
namespace Go.AM
open Go.Proofs
def endS (l : Lad) : List (List Bool) → Sta → Sta
  | [], s => s
  | x :: r, s => endS l r (scanL l x s).1
theorem runGo_append (l : Lad) (zs : List (List Bool)) : ∀ (ys : List (List Bool)) (i : Nat) (s : Sta) (acc : List Sta),
    runGo l (ys ++ zs) i s acc = bif (runGo l ys i s acc).2.2 != 0 then runGo l ys i s acc else runGo l zs (i + ys.length) (endS l ys s) (runGo l ys i s acc).1
  | [], i, s, acc => by simp [runGo, endS]
  | y :: r, i, s, acc => by
    have e : i + (y :: r).length = i + 1 + r.length := by rw [List.length_cons]; omega
    rw [e, List.cons_append]
    simp only [runGo, endS]
    cases hc : (scanL l y s).2.2 != 0 with
    | true => simp only [cond_true, hc]
    | false => simp only [cond_false]; exact runGo_append l zs r (i + 1) _ _
theorem runGo_acc (l : Lad) : ∀ (zs : List (List Bool)) (i j : Nat) (s : Sta) (acc acc' : List Sta),
    (runGo l zs i s (acc ++ acc')).2.2 = (runGo l zs j s acc').2.2 ∧ ((runGo l zs j s acc').2.2 = 0 → (runGo l zs i s (acc ++ acc')).1 = acc ++ (runGo l zs j s acc').1)
  | [], i, j, s, acc, acc' => ⟨rfl, fun _ => rfl⟩
  | z :: r, i, j, s, acc, acc' => by
    simp only [runGo]
    cases hc : (scanL l z s).2.2 != 0 with
    | true =>
      refine ⟨rfl, fun h => ?_⟩
      simp only [cond_true] at h
      rw [h] at hc
      cases hc
    | false =>
      simp only [cond_false]
      have h1 := runGo_acc l r (i + 1) (j + 1) (scanL l z s).1 acc (acc' ++ [(scanL l z s).1])
      rw [← List.append_assoc] at h1
      exact h1
theorem runGo_len (l : Lad) : ∀ (xs : List (List Bool)) (i : Nat) (s : Sta) (acc : List Sta), (runGo l xs i s acc).2.2 = 0 → (runGo l xs i s acc).1.length = acc.length + xs.length
  | [], i, s, acc, _ => rfl
  | x :: r, i, s, acc, h => by
    simp only [runGo] at h ⊢
    cases hc : (scanL l x s).2.2 != 0 with
    | true => rw [hc] at h; simp only [cond_true] at h; rw [h] at hc; cases hc
    | false =>
      rw [hc] at h
      simp only [cond_false] at h ⊢
      rw [runGo_len l r _ _ _ h, List.length_append, List.length_singleton, List.length_cons]
      omega
theorem runGo_last (l : Lad) : ∀ (ys : List (List Bool)) (y : List Bool) (i : Nat) (s : Sta) (acc : List Sta), (runGo l (y :: ys) i s acc).2.2 = 0 → (runGo l (y :: ys) i s acc).1.getLast? = some (endS l (y :: ys) s)
  | [], y, i, s, acc, h => by
    simp only [runGo, endS] at h ⊢
    cases hc : (scanL l y s).2.2 != 0 with
    | true => rw [hc] at h; simp only [cond_true] at h; rw [h] at hc; cases hc
    | false => simp
  | z :: r, y, i, s, acc, h => by
    have e1 : endS l (y :: z :: r) s = endS l (z :: r) (scanL l y s).1 := rfl
    rw [runGo] at h ⊢
    rw [e1]
    cases hc : (scanL l y s).2.2 != 0 with
    | true => rw [hc] at h; simp only [cond_true] at h; rw [h] at hc; cases hc
    | false =>
      rw [hc] at h
      simp only [cond_false] at h ⊢
      exact runGo_last l r z _ _ _ h
theorem last_getE {b : List Sta} {k : Nat} {s : Sta} (hb : b.length = k) (h : b.getLast? = some s) : getE k26 b ((k : Int) - 1) = s := by
  have e : ((k : Int) - 1).toNat = k - 1 := by omega
  rw [List.getLast?_eq_getElem?, hb] at h
  unfold getE
  rw [e, List.getD_eq_getElem?_getD, h]
  rfl
/-- A run in two parts. -/
theorem run_two {l : Lad} {st : Sta} {ins : List (List Bool)} (h : (runL l st ins).2.2 = 0) {k : Nat} (hk : 0 < k) (hk2 : k ≤ ins.length) :
    (runL l st ins).1.length = ins.length ∧ (runL l st (ins.take k)).2.2 = 0 ∧ (runL l st (ins.take k)).1.length = k ∧ (runL l (getE k26 (runL l st (ins.take k)).1 ((k : Int) - 1)) (ins.drop k)).2.2 = 0 ∧
      (runL l (getE k26 (runL l st (ins.take k)).1 ((k : Int) - 1)) (ins.drop k)).1.length = ins.length - k ∧
      (runL l st ins).1 = (runL l st (ins.take k)).1 ++ (runL l (getE k26 (runL l st (ins.take k)).1 ((k : Int) - 1)) (ins.drop k)).1 := by
  have hlen := runGo_len l ins 0 st [] h
  have htl : (ins.take k).length = k := by rw [List.length_take]; omega
  have ha := runGo_append l (ins.drop k) (ins.take k) 0 st []
  rw [List.take_append_drop] at ha
  unfold runL at h ⊢
  rw [ha] at h
  cases hc : (runGo l (ins.take k) 0 st []).2.2 != 0 with
  | true =>
    rw [hc] at h
    simp only [cond_true] at h
    rw [h] at hc
    cases hc
  | false =>
    rw [hc] at h
    simp only [cond_false] at h
    have h0 : (runGo l (ins.take k) 0 st []).2.2 = 0 := by simpa using hc
    have hbl := runGo_len l (ins.take k) 0 st [] h0
    rw [htl] at hbl
    have hbl : (runGo l (ins.take k) 0 st []).1.length = k := by simpa using hbl
    have hend : getE k26 (runGo l (ins.take k) 0 st []).1 ((k : Int) - 1) = endS l (ins.take k) st := by
      refine last_getE hbl ?_
      cases hy : ins.take k with
      | nil => rw [hy] at htl; simp at htl; omega
      | cons y r =>
        rw [hy] at h0
        exact runGo_last l r y 0 st [] h0
    rw [hend]
    obtain ⟨e1, e2⟩ := runGo_acc l (ins.drop k) (0 + (ins.take k).length) 0 (endS l (ins.take k) st) (runGo l (ins.take k) 0 st []).1 []
    rw [List.append_nil] at e1 e2
    rw [e1] at h
    have hcl := runGo_len l (ins.drop k) 0 (endS l (ins.take k) st) [] h
    rw [List.length_drop] at hcl
    refine ⟨by simpa using hlen, h0, hbl, h, by simpa using hcl, ?_⟩
    rw [ha, hc]
    exact e2 h
end Go.AM
namespace Go.AM
open Go.Proofs
-- f7 "busbar/busbarlaw20.PathmodelComposition" ['24', '27', '28'] -> ['4']
def A7 : Ann := [(0, [7, 10, 11, 14, 99, 100], [], [6])]
def E7 : Env := [(8, sp8), (9, sp9), (13, sp13), (18, sp18)]
def I7 (p0 : (k23 : K).ty) (p1 : (k26 : K).ty) (p2 : ((.slice 25 (.slice 4 .bool)) : K).ty) : List V1 := [nfK k23 p0, nfK k26 p1, nfK (.slice 25 (.slice 4 .bool)) p2]
noncomputable def L7_0 : Code := Code.a (Code.a (Code.b (Code.a (Code.b (Code.b (Code.b (Code.b (Code.b (Code.b (Code.b (Code.b (Code.b (Func.code Try.f7)))))))))))))
def S7_0 (l7 : List (K.ty k26)) (x10 : Int) (l11 : List (K.ty k26)) (l14 : List (K.ty k26)) (x99 : Int) (x100 : Int) : St := sp (139 : Nat) [((7 : Nat), V.v (V1.one (Lf.sl (27 : TypeId) k26 l7))), ((10 : Nat), V.v (V1.one (Lf.int IntKind.i64 x10))), ((11 : Nat), V.v (V1.one (Lf.sl (27 : TypeId) k26 l11))), ((14 : Nat), V.v (V1.one (Lf.sl (27 : TypeId) k26 l14))), ((99 : Nat), V.v (V1.one (Lf.int IntKind.i64 x99))), ((100 : Nat), V.v (V1.one (Lf.int IntKind.i64 x100)))] []
def X7_0_0 (b6 : Bool) : St := sp (139 : Nat) [((6 : Nat), V.v (V1.one (Lf.bool b6)))] []
def X7_0_1 : St := sp (139 : Nat) [] []
def t7_0 (again : List (K.ty k26) → Int → List (K.ty k26) → List (K.ty k26) → Int → Int → Prop) (R0 : Bool → Prop) (R1 : Prop) (l7 : List (K.ty k26)) (x10 : Int) (l11 : List (K.ty k26)) (l14 : List (K.ty k26)) (x99 : Int) (x100 : Int) : Prop :=
  brP (decide (x100 < x99)) (brP (decide (x100 < x10)) (bound x100 (List.length l7) ∧ bound x100 (List.length l11) ∧ List.length (getE k26 l7 x100).fst ≤ (4611686018427387904 : Nat) ∧ List.length (getE k26 l7 x100).snd.fst ≤ (4611686018427387904 : Nat) ∧ List.length (getE k26 l7 x100).snd.snd ≤ (4611686018427387904 : Nat) ∧ brP (!decide (getE k26 l7 x100 = getE k26 l11 x100)) (R0 false) (brP (decide (x100 ≥ x10)) (bound x100 (List.length l7) ∧ bound (IntKind.wrap IntKind.i64 (x100 - x10)) (List.length l14) ∧ List.length (getE k26 l7 x100).fst ≤ (4611686018427387904 : Nat) ∧ List.length (getE k26 l7 x100).snd.fst ≤ (4611686018427387904 : Nat) ∧ List.length (getE k26 l7 x100).snd.snd ≤ (4611686018427387904 : Nat) ∧ brP (!decide (getE k26 l7 x100 = getE k26 l14 (IntKind.wrap IntKind.i64 (x100 - x10)))) (R0 false) (again l7 x10 l11 l14 x99 (IntKind.wrap IntKind.i64 (x100 + (1 : Int))))) (again l7 x10 l11 l14 x99 (IntKind.wrap IntKind.i64 (x100 + (1 : Int)))))) (brP (decide (x100 ≥ x10)) (bound x100 (List.length l7) ∧ bound (IntKind.wrap IntKind.i64 (x100 - x10)) (List.length l14) ∧ List.length (getE k26 l7 x100).fst ≤ (4611686018427387904 : Nat) ∧ List.length (getE k26 l7 x100).snd.fst ≤ (4611686018427387904 : Nat) ∧ List.length (getE k26 l7 x100).snd.snd ≤ (4611686018427387904 : Nat) ∧ brP (!decide (getE k26 l7 x100 = getE k26 l14 (IntKind.wrap IntKind.i64 (x100 - x10)))) (R0 false) (again l7 x10 l11 l14 x99 (IntKind.wrap IntKind.i64 (x100 + (1 : Int))))) (again l7 x10 l11 l14 x99 (IntKind.wrap IntKind.i64 (x100 + (1 : Int)))))) R1
theorem t7_0_mono {again : List (K.ty k26) → Int → List (K.ty k26) → List (K.ty k26) → Int → Int → Prop} {R0 : Bool → Prop} {R1 : Prop} {again' : List (K.ty k26) → Int → List (K.ty k26) → List (K.ty k26) → Int → Int → Prop} {R0' : Bool → Prop} {R1' : Prop} (ha : ∀ l7 x10 l11 l14 x99 x100, again l7 x10 l11 l14 x99 x100 → again' l7 x10 l11 l14 x99 x100) (hr0 : ∀ b6, R0 b6 → R0' b6) (hr1 :  R1 → R1') (l7 : List (K.ty k26)) (x10 : Int) (l11 : List (K.ty k26)) (l14 : List (K.ty k26)) (x99 : Int) (x100 : Int) :
    t7_0 again R0 R1 l7 x10 l11 l14 x99 x100 → t7_0 again' R0' R1' l7 x10 l11 l14 x99 x100 :=
  brM (brM (andM (id) (andM (id) (andM (id) (andM (id) (andM (id) (brM (hr0 _) (brM (andM (id) (andM (id) (andM (id) (andM (id) (andM (id) (brM (hr0 _) (ha _ _ _ _ _ _))))))) (ha _ _ _ _ _ _)))))))) (brM (andM (id) (andM (id) (andM (id) (andM (id) (andM (id) (brM (hr0 _) (ha _ _ _ _ _ _))))))) (ha _ _ _ _ _ _))) (hr1)
theorem t7_0_eq (n : Nat) (Q : Ex → St → Prop) (l7 : List (K.ty k26)) (x10 : Int) (l11 : List (K.ty k26)) (l14 : List (K.ty k26)) (x99 : Int) (x100 : Int) :
    t7_0 (fun l7 x10 l11 l14 x99 x100 => loopP (awp tt E7 A7 L7_0 0) ([(7 : Nat), (10 : Nat), (11 : Nat), (14 : Nat), (99 : Nat), (100 : Nat)], [], [(6 : Nat)]) n (S7_0 l7 x10 l11 l14 x99 x100) Q) (fun b6 => Q (Ex.ret) (X7_0_0 b6)) ( Q (Ex.exit (nat_lit 0)) (X7_0_1)) l7 x10 l11 l14 x99 x100 = (loopP (awp tt E7 A7 L7_0 0) ([(7 : Nat), (10 : Nat), (11 : Nat), (14 : Nat), (99 : Nat), (100 : Nat)], [], [(6 : Nat)]) (n + 1) (S7_0 l7 x10 l11 l14 x99 x100) Q) := by kernel_rfl
def G7_0 (R0 : Bool → Prop) (R1 : Prop) : Nat → List (K.ty k26) → Int → List (K.ty k26) → List (K.ty k26) → Int → Int → Prop
  | 0, _, _, _, _, _, _ => False
  | n + 1, l7, x10, l11, l14, x99, x100 => t7_0 (G7_0 R0 R1 n) R0 R1 l7 x10 l11 l14 x99 x100
theorem T7_0 {R0 : Bool → Prop} {R1 : Prop} (Q : Ex → St → Prop) (hr0 : ∀ b6, R0 b6 → Of (Q (Ex.ret) (X7_0_0 b6))) (hr1 :  R1 → Of (Q (Ex.exit (nat_lit 0)) (X7_0_1))) : ∀ (n : Nat) (l7 : List (K.ty k26)) (x10 : Int) (l11 : List (K.ty k26)) (l14 : List (K.ty k26)) (x99 : Int) (x100 : Int), G7_0 R0 R1 n l7 x10 l11 l14 x99 x100 → Of (loopP (awp tt E7 A7 L7_0 0) ([(7 : Nat), (10 : Nat), (11 : Nat), (14 : Nat), (99 : Nat), (100 : Nat)], [], [(6 : Nat)]) n (S7_0 l7 x10 l11 l14 x99 x100) Q) := by
  intro n
  induction n with
  | zero => intro l7 x10 l11 l14 x99 x100 h; exact h.elim
  | succ n ih =>
    intro l7 x10 l11 l14 x99 x100 h
    exact kcO (t7_0_eq n Q l7 x10 l11 l14 x99 x100) (t7_0_mono (fun _ _ _ _ _ _ h => (ih _ _ _ _ _ _ h).out) (fun _ h => (hr0 _ h).out) (fun h => (hr1 h).out) l7 x10 l11 l14 x99 x100 h)
def t7 (Q : List V1 → List Ob → Prop) (lp0 : K.ty k23 → K.ty k26 → K.ty (K.slice (25 : TypeId) (K.slice (4 : TypeId) K.bool)) → Int → Prop) (p0 : K.ty k23) (p1 : K.ty k26) (p2 : K.ty (K.slice (25 : TypeId) (K.slice (4 : TypeId) K.bool))) : Prop :=
  (wideL p0 ∧ List.length p2 ≤ (4611686018427387904 : Nat)) ∧ ∀ (v3 : Int), isBit v3 → (v3 = (0 : Int) → okIn p0 p1 p2) → brP (decide (v3 > (0 : Int))) (Q [V1.one (Lf.bool true)] []) (brP (decide ((↑(List.length p2) : Int) < (2 : Int))) (Q [V1.one (Lf.bool true)] []) ((small p1 ∧ List.length p2 ≤ (1000 : Nat)) ∧ (2 : Int) ≠ (0 : Int) ∧ ((0 : Int) ≤ (0 : Int) ∧ (0 : Int) ≤ IntKind.wrap IntKind.i64 (Int.tdiv (↑(List.length p2) : Int) (2 : Int)) ∧ IntKind.wrap IntKind.i64 (Int.tdiv (↑(List.length p2) : Int) (2 : Int)) ≤ (↑(List.length p2) : Int)) ∧ (small p1 ∧ List.length (List.drop (Int.toNat (0 : Int)) (List.take (Int.toNat (IntKind.wrap IntKind.i64 (Int.tdiv (↑(List.length p2) : Int) (2 : Int)))) p2)) ≤ (1000 : Nat)) ∧ brP ((runL p0 p1 p2).snd.snd != (0 : Int)) (Q [V1.one (Lf.bool ((↑(List.length (runL p0 p1 p2).fst) : Int) == (0 : Int)))] []) (brP ((runL p0 p1 (List.drop (Int.toNat (0 : Int)) (List.take (Int.toNat (IntKind.wrap IntKind.i64 (Int.tdiv (↑(List.length p2) : Int) (2 : Int)))) p2))).snd.snd != (0 : Int)) (Q [V1.one (Lf.bool false)] []) (brP ((↑(List.length (runL p0 p1 (List.drop (Int.toNat (0 : Int)) (List.take (Int.toNat (IntKind.wrap IntKind.i64 (Int.tdiv (↑(List.length p2) : Int) (2 : Int)))) p2))).fst) : Int) != IntKind.wrap IntKind.i64 (Int.tdiv (↑(List.length p2) : Int) (2 : Int))) (Q [V1.one (Lf.bool false)] []) (brP ((↑(List.length (runL p0 p1 p2).fst) : Int) != (↑(List.length p2) : Int)) (Q [V1.one (Lf.bool false)] []) (bound (IntKind.wrap IntKind.i64 (IntKind.wrap IntKind.i64 (Int.tdiv (↑(List.length p2) : Int) (2 : Int)) - (1 : Int))) (List.length (runL p0 p1 (List.drop (Int.toNat (0 : Int)) (List.take (Int.toNat (IntKind.wrap IntKind.i64 (Int.tdiv (↑(List.length p2) : Int) (2 : Int)))) p2))).fst) ∧ ((0 : Int) ≤ IntKind.wrap IntKind.i64 (Int.tdiv (↑(List.length p2) : Int) (2 : Int)) ∧ IntKind.wrap IntKind.i64 (Int.tdiv (↑(List.length p2) : Int) (2 : Int)) ≤ (↑(List.length p2) : Int) ∧ (↑(List.length p2) : Int) ≤ (↑(List.length p2) : Int)) ∧ (small (getE k26 (runL p0 p1 (List.drop (Int.toNat (0 : Int)) (List.take (Int.toNat (IntKind.wrap IntKind.i64 (Int.tdiv (↑(List.length p2) : Int) (2 : Int)))) p2))).fst (IntKind.wrap IntKind.i64 (IntKind.wrap IntKind.i64 (Int.tdiv (↑(List.length p2) : Int) (2 : Int)) - (1 : Int)))) ∧ List.length (List.drop (Int.toNat (IntKind.wrap IntKind.i64 (Int.tdiv (↑(List.length p2) : Int) (2 : Int)))) (List.take (Int.toNat (↑(List.length p2) : Int)) p2)) ≤ (1000 : Nat)) ∧ brP ((runL p0 (getE k26 (runL p0 p1 (List.drop (Int.toNat (0 : Int)) (List.take (Int.toNat (IntKind.wrap IntKind.i64 (Int.tdiv (↑(List.length p2) : Int) (2 : Int)))) p2))).fst (IntKind.wrap IntKind.i64 (IntKind.wrap IntKind.i64 (Int.tdiv (↑(List.length p2) : Int) (2 : Int)) - (1 : Int)))) (List.drop (Int.toNat (IntKind.wrap IntKind.i64 (Int.tdiv (↑(List.length p2) : Int) (2 : Int)))) (List.take (Int.toNat (↑(List.length p2) : Int)) p2))).snd.snd != (0 : Int)) (Q [V1.one (Lf.bool false)] []) (brP ((↑(List.length (runL p0 (getE k26 (runL p0 p1 (List.drop (Int.toNat (0 : Int)) (List.take (Int.toNat (IntKind.wrap IntKind.i64 (Int.tdiv (↑(List.length p2) : Int) (2 : Int)))) p2))).fst (IntKind.wrap IntKind.i64 (IntKind.wrap IntKind.i64 (Int.tdiv (↑(List.length p2) : Int) (2 : Int)) - (1 : Int)))) (List.drop (Int.toNat (IntKind.wrap IntKind.i64 (Int.tdiv (↑(List.length p2) : Int) (2 : Int)))) (List.take (Int.toNat (↑(List.length p2) : Int)) p2))).fst) : Int) != IntKind.wrap IntKind.i64 ((↑(List.length p2) : Int) - IntKind.wrap IntKind.i64 (Int.tdiv (↑(List.length p2) : Int) (2 : Int)))) (Q [V1.one (Lf.bool false)] []) (lp0 p0 p1 p2 v3))))))))
theorem t7_mono {Q : List V1 → List Ob → Prop} {Q' : List V1 → List Ob → Prop} {lp0 : K.ty k23 → K.ty k26 → K.ty (K.slice (25 : TypeId) (K.slice (4 : TypeId) K.bool)) → Int → Prop} {lp0' : K.ty k23 → K.ty k26 → K.ty (K.slice (25 : TypeId) (K.slice (4 : TypeId) K.bool)) → Int → Prop} (hq : ∀ r h, Q r h → Q' r h) (hlp0 : ∀ p0 p1 p2 v3, lp0 p0 p1 p2 v3 → lp0' p0 p1 p2 v3) (p0 : K.ty k23) (p1 : K.ty k26) (p2 : K.ty (K.slice (25 : TypeId) (K.slice (4 : TypeId) K.bool))) :
    t7 Q lp0 p0 p1 p2 → t7 Q' lp0' p0 p1 p2 :=
  andM (andM (id) (id)) (fun hh x => ap (hh x) (fun hh x => ap (hh x) (fun hh x => ap (hh x) (brM (hq _ _) (brM (hq _ _) (andM (andM (id) (id)) (andM (id) (andM (andM (id) (andM (id) (id))) (andM (andM (id) (id)) (brM (hq _ _) (brM (hq _ _) (brM (hq _ _) (brM (hq _ _) (andM (id) (andM (andM (id) (andM (id) (id))) (andM (andM (id) (id)) (brM (hq _ _) (brM (hq _ _) (hlp0 _ _ _ _)))))))))))))))))))
theorem t7_eq (Q : List V1 → List Ob → Prop) (p0 : K.ty k23) (p1 : K.ty k26) (p2 : K.ty (K.slice (25 : TypeId) (K.slice (4 : TypeId) K.bool))) :
    t7 Q (fun p0 p1 p2 v3 => ∃ m, loopP (awp tt E7 A7 L7_0 0) ([(7 : Nat), (10 : Nat), (11 : Nat), (14 : Nat), (99 : Nat), (100 : Nat)], [], [(6 : Nat)]) m (S7_0 ((runL p0 p1 p2).fst) (IntKind.wrap IntKind.i64 (Int.tdiv (↑(List.length p2) : Int) (2 : Int))) ((runL p0 p1 (List.drop (Int.toNat (0 : Int)) (List.take (Int.toNat (IntKind.wrap IntKind.i64 (Int.tdiv (↑(List.length p2) : Int) (2 : Int)))) p2))).fst) ((runL p0 (getE k26 (runL p0 p1 (List.drop (Int.toNat (0 : Int)) (List.take (Int.toNat (IntKind.wrap IntKind.i64 (Int.tdiv (↑(List.length p2) : Int) (2 : Int)))) p2))).fst (IntKind.wrap IntKind.i64 (IntKind.wrap IntKind.i64 (Int.tdiv (↑(List.length p2) : Int) (2 : Int)) - (1 : Int)))) (List.drop (Int.toNat (IntKind.wrap IntKind.i64 (Int.tdiv (↑(List.length p2) : Int) (2 : Int)))) (List.take (Int.toNat (↑(List.length p2) : Int)) p2))).fst) ((↑(List.length (runL p0 p1 p2).fst) : Int)) ((0 : Int))) (blkC (0 : Nat) (seqC (awp tt E7 A7 (Code.b (Code.b (Code.b (Code.b (Code.b (Code.b (Code.b (Code.b (Code.b (Code.b (Func.code Try.f7))))))))))) (0 : Nat)) (topC tt Try.f7 0 Q)))) p0 p1 p2 = (afun tt E7 A7 Try.f7 (I7 p0 p1 p2) [] Q) := by kernel_rfl
def t7c0x1 (Q : List V1 → List Ob → Prop) (p0 : K.ty k23) (p1 : K.ty k26) (p2 : K.ty (K.slice (25 : TypeId) (K.slice (4 : TypeId) K.bool))) (v3 : Int) : Prop :=
  Q [V1.one (Lf.bool true)] []
theorem t7c0x1_mono {Q : List V1 → List Ob → Prop} {Q' : List V1 → List Ob → Prop} (hq : ∀ r h, Q r h → Q' r h) (p0 : K.ty k23) (p1 : K.ty k26) (p2 : K.ty (K.slice (25 : TypeId) (K.slice (4 : TypeId) K.bool))) (v3 : Int) :
    t7c0x1 Q p0 p1 p2 v3 → t7c0x1 Q' p0 p1 p2 v3 :=
  hq _ _
theorem t7c0x1_eq (Q : List V1 → List Ob → Prop) (p0 : K.ty k23) (p1 : K.ty k26) (p2 : K.ty (K.slice (25 : TypeId) (K.slice (4 : TypeId) K.bool))) (v3 : Int) :
    t7c0x1 Q p0 p1 p2 v3 = ((blkC (0 : Nat) (seqC (awp tt E7 A7 (Code.b (Code.b (Code.b (Code.b (Code.b (Code.b (Code.b (Code.b (Code.b (Code.b (Func.code Try.f7))))))))))) (0 : Nat)) (topC tt Try.f7 0 Q))) (Ex.exit (nat_lit 0)) (X7_0_1)) := by kernel_rfl
def t7c0x0 (Q : List V1 → List Ob → Prop) (p0 : K.ty k23) (p1 : K.ty k26) (p2 : K.ty (K.slice (25 : TypeId) (K.slice (4 : TypeId) K.bool))) (v3 : Int) (b6e4 : Bool) : Prop :=
  Q [V1.one (Lf.bool b6e4)] []
theorem t7c0x0_mono {Q : List V1 → List Ob → Prop} {Q' : List V1 → List Ob → Prop} (hq : ∀ r h, Q r h → Q' r h) (p0 : K.ty k23) (p1 : K.ty k26) (p2 : K.ty (K.slice (25 : TypeId) (K.slice (4 : TypeId) K.bool))) (v3 : Int) (b6e4 : Bool) :
    t7c0x0 Q p0 p1 p2 v3 b6e4 → t7c0x0 Q' p0 p1 p2 v3 b6e4 :=
  hq _ _
theorem t7c0x0_eq (Q : List V1 → List Ob → Prop) (p0 : K.ty k23) (p1 : K.ty k26) (p2 : K.ty (K.slice (25 : TypeId) (K.slice (4 : TypeId) K.bool))) (v3 : Int) (b6e4 : Bool) :
    t7c0x0 Q p0 p1 p2 v3 b6e4 = ((blkC (0 : Nat) (seqC (awp tt E7 A7 (Code.b (Code.b (Code.b (Code.b (Code.b (Code.b (Code.b (Code.b (Code.b (Code.b (Func.code Try.f7))))))))))) (0 : Nat)) (topC tt Try.f7 0 Q))) (Ex.ret) (X7_0_0 b6e4)) := by kernel_rfl
def H7 (Q : List V1 → List Ob → Prop) (p0 : K.ty k23) (p1 : K.ty k26) (p2 : K.ty (K.slice (25 : TypeId) (K.slice (4 : TypeId) K.bool))) : Prop := t7 Q (fun p0 p1 p2 v3 => ∃ m, G7_0 (fun b6e4 => t7c0x0 Q p0 p1 p2 v3 b6e4) ( t7c0x1 Q p0 p1 p2 v3) m ((runL p0 p1 p2).fst) (IntKind.wrap IntKind.i64 (Int.tdiv (↑(List.length p2) : Int) (2 : Int))) ((runL p0 p1 (List.drop (Int.toNat (0 : Int)) (List.take (Int.toNat (IntKind.wrap IntKind.i64 (Int.tdiv (↑(List.length p2) : Int) (2 : Int)))) p2))).fst) ((runL p0 (getE k26 (runL p0 p1 (List.drop (Int.toNat (0 : Int)) (List.take (Int.toNat (IntKind.wrap IntKind.i64 (Int.tdiv (↑(List.length p2) : Int) (2 : Int)))) p2))).fst (IntKind.wrap IntKind.i64 (IntKind.wrap IntKind.i64 (Int.tdiv (↑(List.length p2) : Int) (2 : Int)) - (1 : Int)))) (List.drop (Int.toNat (IntKind.wrap IntKind.i64 (Int.tdiv (↑(List.length p2) : Int) (2 : Int)))) (List.take (Int.toNat (↑(List.length p2) : Int)) p2))).fst) ((↑(List.length (runL p0 p1 p2).fst) : Int)) ((0 : Int))) p0 p1 p2
theorem ok7 (Q : List V1 → List Ob → Prop) (p0 : K.ty k23) (p1 : K.ty k26) (p2 : K.ty (K.slice (25 : TypeId) (K.slice (4 : TypeId) K.bool))) (h : H7 Q p0 p1 p2) : Of (afun tt E7 A7 Try.f7 (I7 p0 p1 p2) [] Q) :=
  kcO (t7_eq Q p0 p1 p2) (t7_mono (fun _ _ h => h) (fun p0 p1 p2 v3 ⟨m, h⟩ => ⟨m, (T7_0 _ (fun b6e4 h => kcO (t7c0x0_eq _ _ _ _ _ _) (t7c0x0_mono (fun _ _ h => h) _ _ _ _ _ h)) (fun h => kcO (t7c0x1_eq _ _ _ _ _) (t7c0x1_mono (fun _ _ h => h) _ _ _ _ h)) m _ _ _ _ _ _ h).out⟩) p0 p1 p2 h)
theorem env7 : EnvOk Try.prog E7 := .cons spec8 (by kernel_rfl) <| .cons spec9 (by kernel_rfl) <| .cons spec13 (by kernel_rfl) <| .cons spec18 (by kernel_rfl) <| .nil
theorem runGo_small (l : Lad) : ∀ (xs : List (List Bool)) (i : Nat) (s : Sta) (acc : List Sta), small s → (∀ x ∈ acc, small x) → ∀ x ∈ (runGo l xs i s acc).1, small x
  | [], i, s, acc, _, ha => ha
  | x :: r, i, s, acc, hs, ha => by
    simp only [runGo]
    cases hc : (scanL l x s).2.2 != 0 with
    | true => intro y hy; cases hy
    | false =>
      simp only [cond_false]
      refine runGo_small l r _ _ _ (scanL_small hs l x) fun y hy => ?_
      rcases List.mem_append.1 hy with hy | hy
      · exact ha y hy
      · rw [List.mem_singleton.1 hy]; exact scanL_small hs l x
theorem getE_mem26 {l : List Sta} {i : Nat} (h : i < l.length) : getE k26 l (i : Int) ∈ l := by
  have : getE k26 l (i : Int) = l[i] := by simp [getE, List.getD, h]
  rw [this]; exact List.getElem_mem h
theorem getE_left {b c : List Sta} {i : Nat} (h : i < b.length) : getE k26 (b ++ c) (i : Int) = getE k26 b (i : Int) := by
  unfold getE
  rw [Int.toNat_natCast, List.getD_eq_getElem?_getD, List.getD_eq_getElem?_getD, List.getElem?_append_left h]
theorem getE_right {b c : List Sta} {i : Nat} (h : b.length ≤ i) : getE k26 (b ++ c) (i : Int) = getE k26 c ((i : Int) - (b.length : Int)) := by
  unfold getE
  have e : ((i : Int) - (b.length : Int)).toNat = i - b.length := by omega
  rw [Int.toNat_natCast, e, List.getD_eq_getElem?_getD, List.getD_eq_getElem?_getD, List.getElem?_append_right h]
theorem wide_small {s : Sta} (h : small s) : s.1.length ≤ 4611686018427387904 ∧ s.2.1.length ≤ 4611686018427387904 ∧ s.2.2.length ≤ 4611686018427387904 := by
  obtain ⟨a, b, c⟩ := h
  exact ⟨by omega, by omega, by omega⟩
theorem loop7 (b c : List Sta) (k : Nat) (R0 : Bool → Prop) (R1 : Prop) (hb : b.length = k) (hn : (b ++ c).length ≤ 1000) (hs : ∀ s ∈ b ++ c, small s) (h1 : R1) :
    ∀ n (i : Nat), (b ++ c).length - i < n → i ≤ (b ++ c).length → G7_0 R0 R1 n (b ++ c) k b c (b ++ c).length i := by
  intro n
  induction n with
  | zero => intro i h; omega
  | succ n ih =>
    intro i hi hil
    have hlen : (b ++ c).length = k + c.length := by rw [List.length_append, hb]
    refine brP_intro (fun e => ?_) (fun _ => h1)
    have e : i < (b ++ c).length := by have := of_decide_eq_true e; omega
    obtain ⟨w1, w2, w3⟩ := wide_small (hs _ (getE_mem26 e))
    have hw : IntKind.wrap IntKind.i64 ((i : Int) + 1) = ((i + 1 : Nat) : Int) := by rw [wrap_in (by omega) (by omega)]; omega
    have hbi : bound (i : Int) (b ++ c).length := ⟨by omega, by omega⟩
    have step : G7_0 R0 R1 n (b ++ c) k b c (b ++ c).length (IntKind.wrap IntKind.i64 ((i : Int) + 1)) := by rw [hw]; exact ih (i + 1) (by omega) (by omega)
    refine brP_intro (fun d => ?_) (fun d => ?_)
    · have d : i < k := by have := of_decide_eq_true d; omega
      have heq : getE k26 (b ++ c) (i : Int) = getE k26 b (i : Int) := getE_left (by omega)
      refine ⟨hbi, ⟨by omega, by omega⟩, w1, w2, w3, brP_intro (fun f => ?_) (fun _ => brP_intro (fun f => ?_) (fun _ => step))⟩
      · have f : (!decide (getE k26 (b ++ c) (i : Int) = getE k26 b (i : Int))) = true := f
        rw [decide_eq_true heq] at f
        cases f
      · have f := of_decide_eq_true f
        omega
    · have d : ¬ i < k := by have := of_decide_eq_false d; omega
      refine brP_intro (fun _ => ?_) (fun _ => step)
      have hsub : IntKind.wrap IntKind.i64 ((i : Int) - (k : Int)) = (i : Int) - (b.length : Int) := by rw [wrap_in (by omega) (by omega), hb]
      have heq : getE k26 (b ++ c) (i : Int) = getE k26 c ((i : Int) - (b.length : Int)) := getE_right (by omega)
      refine ⟨hbi, ⟨by rw [hsub]; omega, by rw [hsub]; omega⟩, w1, w2, w3, brP_intro (fun f => ?_) (fun _ => step)⟩
      have f : (!decide (getE k26 (b ++ c) (i : Int) = getE k26 c (IntKind.wrap IntKind.i64 ((i : Int) - (k : Int))))) = true := f
      rw [hsub, decide_eq_true heq] at f
      cases f
def F7 (l : Lad) (st : Sta) (ins : List (List Bool)) (Q : QT) : Prop := (wideL l ∧ ins.length ≤ 4611686018427387904) ∧ Q [.one (.bool true)] []
def sp7 : PT := S3 k23 k26 kIns F7
theorem spec7 : SpecOk Try.prog 7 sp7 := S3.ok tt_ok mixed env7 Try.func7 fun (l : Lad) (st : Sta) (ins : List (List Bool)) Q h => ok7 Q l st ins <| by
  obtain ⟨h1, hq⟩ := h
  by_cases hlen : ins.length ≤ 30
  · obtain ⟨k, hk⟩ : ∃ k : Nat, k = ins.length / 2 := ⟨_, rfl⟩
    have hkw : IntKind.wrap IntKind.i64 (Int.tdiv (↑(List.length ins) : Int) 2) = (k : Int) := by
      have : Int.tdiv (↑(List.length ins) : Int) 2 = (k : Int) := by
        rw [hk, Int.tdiv_eq_ediv_of_nonneg (by omega)]; omega
      rw [this, wrap_in (by omega) (by omega)]
    have ht : List.drop (Int.toNat 0) (List.take (Int.toNat (k : Int)) ins) = ins.take k := by rw [Int.toNat_natCast]; rfl
    have hd : List.drop (Int.toNat (k : Int)) (List.take (Int.toNat (↑(List.length ins) : Int)) ins) = ins.drop k := by rw [Int.toNat_natCast, Int.toNat_natCast, List.take_length]
    have hk2 : IntKind.wrap IntKind.i64 ((↑(List.length ins) : Int) - (k : Int)) = ((ins.length - k : Nat) : Int) := by rw [wrap_in (by omega) (by omega)]; omega
    unfold H7 t7
    rw [hkw, ht, hd, hk2]
    refine ⟨h1, fun v hv hok => brP_intro (fun c => hq) (fun c => ?_)⟩
    have c : ¬ v > 0 := of_decide_eq_false c
    have v0 : v = 0 := by rcases hv with h | h <;> omega
    obtain ⟨o1, o2, o3, o4⟩ := hok v0
    have hs := small_of_big o2
    refine brP_intro (fun d => hq) (fun d => ?_)
    have d : ¬ (ins.length : Int) < 2 := of_decide_eq_false d
    have hk0 : 0 < k := by omega
    have hkl : k ≤ ins.length := by omega
    have hk1 : IntKind.wrap IntKind.i64 ((k : Int) - 1) = (k : Int) - 1 := wrap_in (by omega) (by omega)
    rw [hk1]
    refine ⟨⟨hs, by omega⟩, by omega, ⟨by omega, by omega, by omega⟩, ⟨hs, by rw [List.length_take]; omega⟩, ?_⟩
    refine brP_intro (fun e => ?_) (fun e => ?_)
    · have e : (runL l st ins).2.2 ≠ 0 := by simpa using e
      have : (runL l st ins).1 = [] := runGo_bad l ins 0 st [] e
      rw [this]; exact hq
    · have e : (runL l st ins).2.2 = 0 := by simpa using e
      obtain ⟨r1, r2, r3, r4, r5, r6⟩ := run_two e hk0 hkl
      have hsb : ∀ x ∈ (runL l st (ins.take k)).1, small x := runGo_small l _ 0 st [] hs (by simp)
      have hlast : small (getE k26 (runL l st (ins.take k)).1 ((k : Int) - 1)) := by
        have e2 : (k : Int) - 1 = ((k - 1 : Nat) : Int) := by omega
        rw [e2]
        exact hsb _ (getE_mem26 (by omega))
      have hsa : ∀ x ∈ (runL l st ins).1, small x := runGo_small l _ 0 st [] hs (by simp)
      rw [r6] at hsa
      rw [r1, r2, r3, r4, r5]
      refine brP_intro (fun f => by simp at f) (fun _ => brP_intro (fun f => by simp at f) (fun _ => brP_intro (fun f => by simp at f) (fun _ => ⟨⟨by omega, by omega⟩, ⟨by omega, by omega, by omega⟩, ⟨hlast, by rw [List.length_drop]; omega⟩, ?_⟩)))
      refine brP_intro (fun f => by simp at f) (fun _ => brP_intro (fun f => by simp at f) (fun _ => ?_))
      refine ⟨ins.length + 1, ?_⟩
      rw [hkw, ht, hd, hk1, r6]
      rw [r6] at r1
      refine loop7 _ _ k _ _ r3 (by omega) hsa hq _ 0 ?_ (Nat.zero_le _)
      omega
  · unfold H7 t7
    refine ⟨h1, fun v hv hok => brP_intro (fun c => hq) (fun c => ?_)⟩
    have c : ¬ v > 0 := of_decide_eq_false c
    have v0 : v = 0 := by rcases hv with h | h <;> omega
    obtain ⟨o1, o2, o3, o4⟩ := hok v0
    omega
end Go.AM
namespace Go.AM
open Go.Proofs
-- f72 "busbar/busbarref09.letter" ['5'] -> ['4']
def A72 : Ann := []
def E72 : Env := []
def I72 (p0 : ((.int .u8) : K).ty) : List V1 := [nfK (.int .u8) p0]
def t72 (Q : List V1 → List Ob → Prop) (p0 : K.ty (K.int IntKind.u8)) : Prop :=
  brP (decide (p0 ≥ (65 : Int))) (brP (decide (p0 ≤ (90 : Int))) (Q [V1.one (Lf.bool true)] []) (brP (decide (p0 ≥ (97 : Int))) (Q [V1.one (Lf.bool (decide (p0 ≤ (122 : Int))))] []) (Q [V1.one (Lf.bool false)] []))) (brP (decide (p0 ≥ (97 : Int))) (Q [V1.one (Lf.bool (decide (p0 ≤ (122 : Int))))] []) (Q [V1.one (Lf.bool false)] []))
theorem t72_mono {Q : List V1 → List Ob → Prop} {Q' : List V1 → List Ob → Prop} (hq : ∀ r h, Q r h → Q' r h) (p0 : K.ty (K.int IntKind.u8)) :
    t72 Q p0 → t72 Q' p0 :=
  brM (brM (hq _ _) (brM (hq _ _) (hq _ _))) (brM (hq _ _) (hq _ _))
theorem t72_eq (Q : List V1 → List Ob → Prop) (p0 : K.ty (K.int IntKind.u8)) :
    t72 Q p0 = (afun tt E72 A72 Try.f72 (I72 p0) [] Q) := by kernel_rfl
def H72 (Q : List V1 → List Ob → Prop) (p0 : K.ty (K.int IntKind.u8)) : Prop := t72 Q p0
theorem ok72 (Q : List V1 → List Ob → Prop) (p0 : K.ty (K.int IntKind.u8)) (h : H72 Q p0) : Of (afun tt E72 A72 Try.f72 (I72 p0) [] Q) :=
  kcO (t72_eq Q p0) (t72_mono (fun _ _ h => h) p0 h)
theorem env72 : EnvOk Try.prog E72 := .nil
theorem spec72 : SpecOk Try.prog 72 sp72 := S1.ok tt_ok mixed env72 Try.func72 fun (c : Int) Q h => ok72 Q c <| by
  have h : Q [.one (.bool (letter c))] [] := h
  have e : ∀ b : Bool, letter c = b → Q [.one (.bool b)] [] := fun b hb => by rw [← hb]; exact h
  unfold letter at e
  unfold H72 t72
  refine brP_intro (fun a => ?_) (fun a => ?_)
  · have a : c ≥ 65 := of_decide_eq_true a
    refine brP_intro (fun b => ?_) (fun b => ?_)
    · have b : c ≤ 90 := of_decide_eq_true b
      exact e true (by rw [decide_eq_false (show ¬ 97 ≤ c by omega), decide_eq_true (show 65 ≤ c by omega), decide_eq_true b]; rfl)
    · have b : ¬ c ≤ 90 := of_decide_eq_false b
      refine brP_intro (fun d => ?_) (fun d => ?_)
      · have d : c ≥ 97 := of_decide_eq_true d
        exact e (decide (c ≤ 122)) (by rw [decide_eq_true (show 97 ≤ c by omega), decide_eq_false b]; cases decide (c ≤ 122) <;> simp)
      · have d : ¬ c ≥ 97 := of_decide_eq_false d
        exact e false (by rw [decide_eq_false (show ¬ 97 ≤ c by omega), decide_eq_false b]; simp)
  · have a : ¬ c ≥ 65 := of_decide_eq_false a
    refine brP_intro (fun d => ?_) (fun d => ?_)
    · have d : c ≥ 97 := of_decide_eq_true d
      omega
    · exact e false (by rw [decide_eq_false (show ¬ 97 ≤ c by omega), decide_eq_false (show ¬ 65 ≤ c by omega)]; rfl)
-- f62 "busbar/busbarref09.IsName" ['9'] -> ['4']
def A62 : Ann := [(0, [0, 3], [], [2])]
def E62 : Env := [(72, sp72)]
def I62 (p0 : (.str : K).ty) : List V1 := [nfK .str p0]
noncomputable def L62_0 : Code := Code.a (Code.a (Code.b (Code.a (Code.b (Code.b (Func.code Try.f62))))))
def S62_0 (s0 : ByteArray) (x3 : Int) : St := sp (46 : Nat) [((0 : Nat), V.v (V1.one (Lf.str s0))), ((3 : Nat), V.v (V1.one (Lf.int IntKind.i64 x3)))] []
def X62_0_0 (b2 : Bool) : St := sp (46 : Nat) [((2 : Nat), V.v (V1.one (Lf.bool b2)))] []
def X62_0_1 : St := sp (46 : Nat) [] []
def t62_0 (again : ByteArray → Int → Prop) (R0 : Bool → Prop) (R1 : Prop) (s0 : ByteArray) (x3 : Int) : Prop :=
  brP (decide (x3 < (↑(ByteArray.size s0) : Int))) (bound x3 (ByteArray.size s0) ∧ brP (!letter (byteAt s0 (Int.toNat x3))) (bound x3 (ByteArray.size s0) ∧ brP (byteAt s0 (Int.toNat x3) != (95 : Int)) (bound x3 (ByteArray.size s0) ∧ brP (decide (byteAt s0 (Int.toNat x3) < (48 : Int))) (R0 false) (bound x3 (ByteArray.size s0) ∧ brP (decide (byteAt s0 (Int.toNat x3) > (57 : Int))) (R0 false) (again s0 (IntKind.wrap IntKind.i64 (x3 + (1 : Int)))))) (again s0 (IntKind.wrap IntKind.i64 (x3 + (1 : Int))))) (again s0 (IntKind.wrap IntKind.i64 (x3 + (1 : Int))))) R1
theorem t62_0_mono {again : ByteArray → Int → Prop} {R0 : Bool → Prop} {R1 : Prop} {again' : ByteArray → Int → Prop} {R0' : Bool → Prop} {R1' : Prop} (ha : ∀ s0 x3, again s0 x3 → again' s0 x3) (hr0 : ∀ b2, R0 b2 → R0' b2) (hr1 :  R1 → R1') (s0 : ByteArray) (x3 : Int) :
    t62_0 again R0 R1 s0 x3 → t62_0 again' R0' R1' s0 x3 :=
  brM (andM (id) (brM (andM (id) (brM (andM (id) (brM (hr0 _) (andM (id) (brM (hr0 _) (ha _ _))))) (ha _ _))) (ha _ _))) (hr1)
theorem t62_0_eq (n : Nat) (Q : Ex → St → Prop) (s0 : ByteArray) (x3 : Int) :
    t62_0 (fun s0 x3 => loopP (awp tt E62 A62 L62_0 0) ([(0 : Nat), (3 : Nat)], [], [(2 : Nat)]) n (S62_0 s0 x3) Q) (fun b2 => Q (Ex.ret) (X62_0_0 b2)) ( Q (Ex.exit (nat_lit 0)) (X62_0_1)) s0 x3 = (loopP (awp tt E62 A62 L62_0 0) ([(0 : Nat), (3 : Nat)], [], [(2 : Nat)]) (n + 1) (S62_0 s0 x3) Q) := by kernel_rfl
def G62_0 (R0 : Bool → Prop) (R1 : Prop) : Nat → ByteArray → Int → Prop
  | 0, _, _ => False
  | n + 1, s0, x3 => t62_0 (G62_0 R0 R1 n) R0 R1 s0 x3
theorem T62_0 {R0 : Bool → Prop} {R1 : Prop} (Q : Ex → St → Prop) (hr0 : ∀ b2, R0 b2 → Of (Q (Ex.ret) (X62_0_0 b2))) (hr1 :  R1 → Of (Q (Ex.exit (nat_lit 0)) (X62_0_1))) : ∀ (n : Nat) (s0 : ByteArray) (x3 : Int), G62_0 R0 R1 n s0 x3 → Of (loopP (awp tt E62 A62 L62_0 0) ([(0 : Nat), (3 : Nat)], [], [(2 : Nat)]) n (S62_0 s0 x3) Q) := by
  intro n
  induction n with
  | zero => intro s0 x3 h; exact h.elim
  | succ n ih =>
    intro s0 x3 h
    exact kcO (t62_0_eq n Q s0 x3) (t62_0_mono (fun _ _ h => (ih _ _ h).out) (fun _ h => (hr0 _ h).out) (fun h => (hr1 h).out) s0 x3 h)
def t62 (Q : List V1 → List Ob → Prop) (lp0 : K.ty K.str → Prop) (p0 : K.ty K.str) : Prop :=
  brP (ByteArray.toList p0 == ByteArray.toList (ByteArray.mk #[])) (Q [V1.one (Lf.bool false)] []) (brP (decide ((↑(ByteArray.size p0) : Int) > (16 : Int))) (Q [V1.one (Lf.bool false)] []) (bound (0 : Int) (ByteArray.size p0) ∧ brP (!letter (byteAt p0 (Int.toNat (0 : Int)))) (Q [V1.one (Lf.bool false)] []) (lp0 p0)))
theorem t62_mono {Q : List V1 → List Ob → Prop} {Q' : List V1 → List Ob → Prop} {lp0 : K.ty K.str → Prop} {lp0' : K.ty K.str → Prop} (hq : ∀ r h, Q r h → Q' r h) (hlp0 : ∀ p0, lp0 p0 → lp0' p0) (p0 : K.ty K.str) :
    t62 Q lp0 p0 → t62 Q' lp0' p0 :=
  brM (hq _ _) (brM (hq _ _) (andM (id) (brM (hq _ _) (hlp0 _))))
theorem t62_eq (Q : List V1 → List Ob → Prop) (p0 : K.ty K.str) :
    t62 Q (fun p0 => ∃ m, loopP (awp tt E62 A62 L62_0 0) ([(0 : Nat), (3 : Nat)], [], [(2 : Nat)]) m (S62_0 (p0) ((0 : Int))) (blkC (0 : Nat) (seqC (awp tt E62 A62 (Code.b (Code.b (Code.b (Func.code Try.f62)))) (0 : Nat)) (topC tt Try.f62 0 Q)))) p0 = (afun tt E62 A62 Try.f62 (I62 p0) [] Q) := by kernel_rfl
def t62c0x1 (Q : List V1 → List Ob → Prop) (p0 : K.ty K.str) : Prop :=
  Q [V1.one (Lf.bool true)] []
theorem t62c0x1_mono {Q : List V1 → List Ob → Prop} {Q' : List V1 → List Ob → Prop} (hq : ∀ r h, Q r h → Q' r h) (p0 : K.ty K.str) :
    t62c0x1 Q p0 → t62c0x1 Q' p0 :=
  hq _ _
theorem t62c0x1_eq (Q : List V1 → List Ob → Prop) (p0 : K.ty K.str) :
    t62c0x1 Q p0 = ((blkC (0 : Nat) (seqC (awp tt E62 A62 (Code.b (Code.b (Code.b (Func.code Try.f62)))) (0 : Nat)) (topC tt Try.f62 0 Q))) (Ex.exit (nat_lit 0)) (X62_0_1)) := by kernel_rfl
def t62c0x0 (Q : List V1 → List Ob → Prop) (p0 : K.ty K.str) (b2e1 : Bool) : Prop :=
  Q [V1.one (Lf.bool b2e1)] []
theorem t62c0x0_mono {Q : List V1 → List Ob → Prop} {Q' : List V1 → List Ob → Prop} (hq : ∀ r h, Q r h → Q' r h) (p0 : K.ty K.str) (b2e1 : Bool) :
    t62c0x0 Q p0 b2e1 → t62c0x0 Q' p0 b2e1 :=
  hq _ _
theorem t62c0x0_eq (Q : List V1 → List Ob → Prop) (p0 : K.ty K.str) (b2e1 : Bool) :
    t62c0x0 Q p0 b2e1 = ((blkC (0 : Nat) (seqC (awp tt E62 A62 (Code.b (Code.b (Code.b (Func.code Try.f62)))) (0 : Nat)) (topC tt Try.f62 0 Q))) (Ex.ret) (X62_0_0 b2e1)) := by kernel_rfl
def H62 (Q : List V1 → List Ob → Prop) (p0 : K.ty K.str) : Prop := t62 Q (fun p0 => ∃ m, G62_0 (fun b2e1 => t62c0x0 Q p0 b2e1) ( t62c0x1 Q p0) m (p0) ((0 : Int))) p0
theorem ok62 (Q : List V1 → List Ob → Prop) (p0 : K.ty K.str) (h : H62 Q p0) : Of (afun tt E62 A62 Try.f62 (I62 p0) [] Q) :=
  kcO (t62_eq Q p0) (t62_mono (fun _ _ h => h) (fun p0 ⟨m, h⟩ => ⟨m, (T62_0 _ (fun b2e1 h => kcO (t62c0x0_eq _ _ _) (t62c0x0_mono (fun _ _ h => h) _ _ h)) (fun h => kcO (t62c0x1_eq _ _) (t62c0x1_mono (fun _ _ h => h) _ h)) m _ _ h).out⟩) p0 h)
theorem env62 : EnvOk Try.prog E62 := .cons spec72 (by kernel_rfl) <| .nil
-- f10 "busbar/busbarref03.Clone" ['27'] -> ['27']
def A10 : Ann := [(100000, [], [], [])]
def E10 : Env := []
def I10 (p0 : (k26 : K).ty) : List V1 := [nfK k26 p0]
def t10 (Q : List V1 → List Ob → Prop) (p0 : K.ty k26) : Prop :=
  ((room tt (4 : TypeId) (List.length (List.replicate (0 : Nat) (K.dflt K.bool)) + List.length p0.fst) ∧ ((room tt (4 : TypeId) (List.length (List.replicate (0 : Nat) (K.dflt K.bool)) + List.length p0.snd.fst) ∧ room tt (4 : TypeId) (List.length (List.replicate (0 : Nat) (K.dflt K.bool)) + List.length p0.snd.snd) ∧ Q [V1.agg [Lf.own (0 : Nat), Lf.own ((0 : Nat) + (1 : Nat)), Lf.own ((0 : Nat) + (1 : Nat) + (1 : Nat))]] [Ob.row (4 : TypeId) K.bool (List.replicate (0 : Nat) (K.dflt K.bool) ++ p0.fst), Ob.row (4 : TypeId) K.bool (List.replicate (0 : Nat) (K.dflt K.bool) ++ p0.snd.fst), Ob.row (4 : TypeId) K.bool (List.replicate (0 : Nat) (K.dflt K.bool) ++ p0.snd.snd)]) ∧ room tt (4 : TypeId) (List.length (List.replicate (0 : Nat) (K.dflt K.bool)) + List.length p0.snd.fst) ∧ room tt (4 : TypeId) (List.length (List.replicate (0 : Nat) (K.dflt K.bool)) + List.length p0.snd.snd) ∧ Q [V1.agg [Lf.own (0 : Nat), Lf.own ((0 : Nat) + (1 : Nat)), Lf.own ((0 : Nat) + (1 : Nat) + (1 : Nat))]] [Ob.row (4 : TypeId) K.bool (List.replicate (0 : Nat) (K.dflt K.bool) ++ p0.fst), Ob.row (4 : TypeId) K.bool (List.replicate (0 : Nat) (K.dflt K.bool) ++ p0.snd.fst), Ob.row (4 : TypeId) K.bool (List.replicate (0 : Nat) (K.dflt K.bool) ++ p0.snd.snd)]) ∧ room tt (4 : TypeId) (List.length (List.replicate (0 : Nat) (K.dflt K.bool)) + List.length p0.snd.fst) ∧ room tt (4 : TypeId) (List.length (List.replicate (0 : Nat) (K.dflt K.bool)) + List.length p0.snd.snd) ∧ Q [V1.agg [Lf.own (0 : Nat), Lf.own ((0 : Nat) + (1 : Nat)), Lf.own ((0 : Nat) + (1 : Nat) + (1 : Nat))]] [Ob.row (4 : TypeId) K.bool (List.replicate (0 : Nat) (K.dflt K.bool) ++ p0.fst), Ob.row (4 : TypeId) K.bool (List.replicate (0 : Nat) (K.dflt K.bool) ++ p0.snd.fst), Ob.row (4 : TypeId) K.bool (List.replicate (0 : Nat) (K.dflt K.bool) ++ p0.snd.snd)]) ∧ ((room tt (4 : TypeId) (List.length (List.replicate (0 : Nat) (K.dflt K.bool)) + List.length p0.fst) ∧ (room tt (4 : TypeId) (List.length (List.replicate (0 : Nat) (K.dflt K.bool)) + List.length p0.snd.fst) ∧ room tt (4 : TypeId) (List.length (List.replicate (0 : Nat) (K.dflt K.bool)) + List.length p0.snd.snd) ∧ Q [V1.agg [Lf.own (0 : Nat), Lf.own ((0 : Nat) + (1 : Nat)), Lf.own ((0 : Nat) + (1 : Nat) + (1 : Nat))]] [Ob.row (4 : TypeId) K.bool (List.replicate (0 : Nat) (K.dflt K.bool) ++ p0.fst), Ob.row (4 : TypeId) K.bool (List.replicate (0 : Nat) (K.dflt K.bool) ++ p0.snd.fst), Ob.row (4 : TypeId) K.bool (List.replicate (0 : Nat) (K.dflt K.bool) ++ p0.snd.snd)]) ∧ room tt (4 : TypeId) (List.length (List.replicate (0 : Nat) (K.dflt K.bool)) + List.length p0.snd.fst) ∧ room tt (4 : TypeId) (List.length (List.replicate (0 : Nat) (K.dflt K.bool)) + List.length p0.snd.snd) ∧ Q [V1.agg [Lf.own (0 : Nat), Lf.own ((0 : Nat) + (1 : Nat)), Lf.own ((0 : Nat) + (1 : Nat) + (1 : Nat))]] [Ob.row (4 : TypeId) K.bool (List.replicate (0 : Nat) (K.dflt K.bool) ++ p0.fst), Ob.row (4 : TypeId) K.bool (List.replicate (0 : Nat) (K.dflt K.bool) ++ p0.snd.fst), Ob.row (4 : TypeId) K.bool (List.replicate (0 : Nat) (K.dflt K.bool) ++ p0.snd.snd)]) ∧ room tt (4 : TypeId) (List.length (List.replicate (0 : Nat) (K.dflt K.bool)) + List.length p0.fst) ∧ room tt (4 : TypeId) (List.length (List.replicate (0 : Nat) (K.dflt K.bool)) + List.length p0.snd.fst) ∧ room tt (4 : TypeId) (List.length (List.replicate (0 : Nat) (K.dflt K.bool)) + List.length p0.snd.snd) ∧ Q [V1.agg [Lf.own (0 : Nat), Lf.own ((0 : Nat) + (1 : Nat)), Lf.own ((0 : Nat) + (1 : Nat) + (1 : Nat))]] [Ob.row (4 : TypeId) K.bool (List.replicate (0 : Nat) (K.dflt K.bool) ++ p0.fst), Ob.row (4 : TypeId) K.bool (List.replicate (0 : Nat) (K.dflt K.bool) ++ p0.snd.fst), Ob.row (4 : TypeId) K.bool (List.replicate (0 : Nat) (K.dflt K.bool) ++ p0.snd.snd)]) ∧ (room tt (4 : TypeId) (List.length (List.replicate (0 : Nat) (K.dflt K.bool)) + List.length p0.fst) ∧ room tt (4 : TypeId) (List.length (List.replicate (0 : Nat) (K.dflt K.bool)) + List.length p0.snd.fst) ∧ room tt (4 : TypeId) (List.length (List.replicate (0 : Nat) (K.dflt K.bool)) + List.length p0.snd.snd) ∧ Q [V1.agg [Lf.own (0 : Nat), Lf.own ((0 : Nat) + (1 : Nat)), Lf.own ((0 : Nat) + (1 : Nat) + (1 : Nat))]] [Ob.row (4 : TypeId) K.bool (List.replicate (0 : Nat) (K.dflt K.bool) ++ p0.fst), Ob.row (4 : TypeId) K.bool (List.replicate (0 : Nat) (K.dflt K.bool) ++ p0.snd.fst), Ob.row (4 : TypeId) K.bool (List.replicate (0 : Nat) (K.dflt K.bool) ++ p0.snd.snd)]) ∧ room tt (4 : TypeId) (List.length (List.replicate (0 : Nat) (K.dflt K.bool)) + List.length p0.fst) ∧ room tt (4 : TypeId) (List.length (List.replicate (0 : Nat) (K.dflt K.bool)) + List.length p0.snd.fst) ∧ room tt (4 : TypeId) (List.length (List.replicate (0 : Nat) (K.dflt K.bool)) + List.length p0.snd.snd) ∧ Q [V1.agg [Lf.own (0 : Nat), Lf.own ((0 : Nat) + (1 : Nat)), Lf.own ((0 : Nat) + (1 : Nat) + (1 : Nat))]] [Ob.row (4 : TypeId) K.bool (List.replicate (0 : Nat) (K.dflt K.bool) ++ p0.fst), Ob.row (4 : TypeId) K.bool (List.replicate (0 : Nat) (K.dflt K.bool) ++ p0.snd.fst), Ob.row (4 : TypeId) K.bool (List.replicate (0 : Nat) (K.dflt K.bool) ++ p0.snd.snd)]) ∧ (((room tt (4 : TypeId) (List.length (List.replicate (0 : Nat) (K.dflt K.bool)) + List.length p0.fst) ∧ (room tt (4 : TypeId) (List.length (List.replicate (0 : Nat) (K.dflt K.bool)) + List.length p0.snd.fst) ∧ room tt (4 : TypeId) (List.length (List.replicate (0 : Nat) (K.dflt K.bool)) + List.length p0.snd.snd) ∧ Q [V1.agg [Lf.own (0 : Nat), Lf.own ((0 : Nat) + (1 : Nat)), Lf.own ((0 : Nat) + (1 : Nat) + (1 : Nat))]] [Ob.row (4 : TypeId) K.bool (List.replicate (0 : Nat) (K.dflt K.bool) ++ p0.fst), Ob.row (4 : TypeId) K.bool (List.replicate (0 : Nat) (K.dflt K.bool) ++ p0.snd.fst), Ob.row (4 : TypeId) K.bool (List.replicate (0 : Nat) (K.dflt K.bool) ++ p0.snd.snd)]) ∧ room tt (4 : TypeId) (List.length (List.replicate (0 : Nat) (K.dflt K.bool)) + List.length p0.snd.fst) ∧ room tt (4 : TypeId) (List.length (List.replicate (0 : Nat) (K.dflt K.bool)) + List.length p0.snd.snd) ∧ Q [V1.agg [Lf.own (0 : Nat), Lf.own ((0 : Nat) + (1 : Nat)), Lf.own ((0 : Nat) + (1 : Nat) + (1 : Nat))]] [Ob.row (4 : TypeId) K.bool (List.replicate (0 : Nat) (K.dflt K.bool) ++ p0.fst), Ob.row (4 : TypeId) K.bool (List.replicate (0 : Nat) (K.dflt K.bool) ++ p0.snd.fst), Ob.row (4 : TypeId) K.bool (List.replicate (0 : Nat) (K.dflt K.bool) ++ p0.snd.snd)]) ∧ room tt (4 : TypeId) (List.length (List.replicate (0 : Nat) (K.dflt K.bool)) + List.length p0.fst) ∧ room tt (4 : TypeId) (List.length (List.replicate (0 : Nat) (K.dflt K.bool)) + List.length p0.snd.fst) ∧ room tt (4 : TypeId) (List.length (List.replicate (0 : Nat) (K.dflt K.bool)) + List.length p0.snd.snd) ∧ Q [V1.agg [Lf.own (0 : Nat), Lf.own ((0 : Nat) + (1 : Nat)), Lf.own ((0 : Nat) + (1 : Nat) + (1 : Nat))]] [Ob.row (4 : TypeId) K.bool (List.replicate (0 : Nat) (K.dflt K.bool) ++ p0.fst), Ob.row (4 : TypeId) K.bool (List.replicate (0 : Nat) (K.dflt K.bool) ++ p0.snd.fst), Ob.row (4 : TypeId) K.bool (List.replicate (0 : Nat) (K.dflt K.bool) ++ p0.snd.snd)]) ∧ room tt (4 : TypeId) (List.length (List.replicate (0 : Nat) (K.dflt K.bool)) + List.length p0.fst) ∧ room tt (4 : TypeId) (List.length (List.replicate (0 : Nat) (K.dflt K.bool)) + List.length p0.snd.fst) ∧ room tt (4 : TypeId) (List.length (List.replicate (0 : Nat) (K.dflt K.bool)) + List.length p0.snd.snd) ∧ Q [V1.agg [Lf.own (0 : Nat), Lf.own ((0 : Nat) + (1 : Nat)), Lf.own ((0 : Nat) + (1 : Nat) + (1 : Nat))]] [Ob.row (4 : TypeId) K.bool (List.replicate (0 : Nat) (K.dflt K.bool) ++ p0.fst), Ob.row (4 : TypeId) K.bool (List.replicate (0 : Nat) (K.dflt K.bool) ++ p0.snd.fst), Ob.row (4 : TypeId) K.bool (List.replicate (0 : Nat) (K.dflt K.bool) ++ p0.snd.snd)]) ∧ ((room tt (4 : TypeId) (List.length (List.replicate (0 : Nat) (K.dflt K.bool)) + List.length p0.fst) ∧ room tt (4 : TypeId) (List.length (List.replicate (0 : Nat) (K.dflt K.bool)) + List.length p0.snd.fst) ∧ room tt (4 : TypeId) (List.length (List.replicate (0 : Nat) (K.dflt K.bool)) + List.length p0.snd.snd) ∧ Q [V1.agg [Lf.own (0 : Nat), Lf.own ((0 : Nat) + (1 : Nat)), Lf.own ((0 : Nat) + (1 : Nat) + (1 : Nat))]] [Ob.row (4 : TypeId) K.bool (List.replicate (0 : Nat) (K.dflt K.bool) ++ p0.fst), Ob.row (4 : TypeId) K.bool (List.replicate (0 : Nat) (K.dflt K.bool) ++ p0.snd.fst), Ob.row (4 : TypeId) K.bool (List.replicate (0 : Nat) (K.dflt K.bool) ++ p0.snd.snd)]) ∧ room tt (4 : TypeId) (List.length (List.replicate (0 : Nat) (K.dflt K.bool)) + List.length p0.fst) ∧ room tt (4 : TypeId) (List.length (List.replicate (0 : Nat) (K.dflt K.bool)) + List.length p0.snd.fst) ∧ room tt (4 : TypeId) (List.length (List.replicate (0 : Nat) (K.dflt K.bool)) + List.length p0.snd.snd) ∧ Q [V1.agg [Lf.own (0 : Nat), Lf.own ((0 : Nat) + (1 : Nat)), Lf.own ((0 : Nat) + (1 : Nat) + (1 : Nat))]] [Ob.row (4 : TypeId) K.bool (List.replicate (0 : Nat) (K.dflt K.bool) ++ p0.fst), Ob.row (4 : TypeId) K.bool (List.replicate (0 : Nat) (K.dflt K.bool) ++ p0.snd.fst), Ob.row (4 : TypeId) K.bool (List.replicate (0 : Nat) (K.dflt K.bool) ++ p0.snd.snd)]) ∧ room tt (4 : TypeId) (List.length (List.replicate (0 : Nat) (K.dflt K.bool)) + List.length p0.fst) ∧ room tt (4 : TypeId) (List.length (List.replicate (0 : Nat) (K.dflt K.bool)) + List.length p0.snd.fst) ∧ room tt (4 : TypeId) (List.length (List.replicate (0 : Nat) (K.dflt K.bool)) + List.length p0.snd.snd) ∧ Q [V1.agg [Lf.own (0 : Nat), Lf.own ((0 : Nat) + (1 : Nat)), Lf.own ((0 : Nat) + (1 : Nat) + (1 : Nat))]] [Ob.row (4 : TypeId) K.bool (List.replicate (0 : Nat) (K.dflt K.bool) ++ p0.fst), Ob.row (4 : TypeId) K.bool (List.replicate (0 : Nat) (K.dflt K.bool) ++ p0.snd.fst), Ob.row (4 : TypeId) K.bool (List.replicate (0 : Nat) (K.dflt K.bool) ++ p0.snd.snd)]
theorem t10_mono {Q : List V1 → List Ob → Prop} {Q' : List V1 → List Ob → Prop} (hq : ∀ r h, Q r h → Q' r h) (p0 : K.ty k26) :
    t10 Q p0 → t10 Q' p0 :=
  andM (andM (andM (id) (andM (andM (andM (id) (andM (id) (hq _ _))) (andM (id) (andM (id) (hq _ _)))) (andM (id) (andM (id) (hq _ _))))) (andM (andM (andM (id) (andM (andM (id) (andM (id) (hq _ _))) (andM (id) (andM (id) (hq _ _))))) (andM (id) (andM (id) (andM (id) (hq _ _))))) (andM (andM (id) (andM (id) (andM (id) (hq _ _)))) (andM (id) (andM (id) (andM (id) (hq _ _))))))) (andM (andM (andM (andM (id) (andM (andM (id) (andM (id) (hq _ _))) (andM (id) (andM (id) (hq _ _))))) (andM (id) (andM (id) (andM (id) (hq _ _))))) (andM (id) (andM (id) (andM (id) (hq _ _))))) (andM (andM (andM (id) (andM (id) (andM (id) (hq _ _)))) (andM (id) (andM (id) (andM (id) (hq _ _))))) (andM (id) (andM (id) (andM (id) (hq _ _))))))
theorem t10_eq (Q : List V1 → List Ob → Prop) (p0 : K.ty k26) :
    t10 Q p0 = (afun tt E10 A10 Try.f10 (I10 p0) [] Q) := by kernel_rfl
def H10 (Q : List V1 → List Ob → Prop) (p0 : K.ty k26) : Prop := t10 Q p0
theorem ok10 (Q : List V1 → List Ob → Prop) (p0 : K.ty k26) (h : H10 Q p0) : Of (afun tt E10 A10 Try.f10 (I10 p0) [] Q) :=
  kcO (t10_eq Q p0) (t10_mono (fun _ _ h => h) p0 h)
theorem env10 : EnvOk Try.prog E10 := .nil
theorem tree10 {Q : QT} {s : Sta} (hs : small s) (hq : Q [.agg [.own 0, .own 1, .own 2]] [orow s.1, orow s.2.1, orow s.2.2]) : H10 Q s := by
  have e : ∀ l : List Bool, List.length (List.replicate 0 (K.dflt K.bool)) + l.length = l.length := fun l => by simp
  have r1 : room tt 4 (List.length (List.replicate 0 (K.dflt K.bool)) + s.1.length) := by rw [e]; exact room4 hs.1
  have r2 : room tt 4 (List.length (List.replicate 0 (K.dflt K.bool)) + s.2.1.length) := by rw [e]; exact room4 hs.2.1
  have r3 : room tt 4 (List.length (List.replicate 0 (K.dflt K.bool)) + s.2.2.length) := by rw [e]; exact room4 hs.2.2
  unfold H10 t10
  repeat' (first | exact r1 | exact r2 | exact r3 | exact hq | apply And.intro)
theorem spec10 : SpecOk Try.prog 10 sp10 := S1.ok tt_ok mixed env10 Try.func10 fun l Q h => ok10 Q l (tree10 h.1 h.2)
theorem spec10s : SpecOk Try.prog 10 sp10s := S1.okS tt_ok mixed [k26] env10 Try.func10 fun l Q h => ok10 _ l (tree10 h.1 h.2)
-- f65 "busbar/busbarref03.Read" ['25', '27', '73'] -> ['4', '3']
def A65 : Ann := []
def E65 : Env := []
def I65 (p0 : ((.slice 4 .bool) : K).ty) (p1 : (k26 : K).ty) (p2 : (k72 : K).ty) : List V1 := [nfK (.slice 4 .bool) p0, nfK k26 p1, nfK k72 p2]
def t65 (Q : List V1 → List Ob → Prop) (p0 : K.ty (K.slice (4 : TypeId) K.bool)) (p1 : K.ty k26) (p2 : K.ty k72) : Prop :=
  brP (p2.fst == (0 : Int)) (brP (decide (p2.snd < (0 : Int))) (Q [V1.one (Lf.bool false), V1.one (Lf.int IntKind.i64 (3 : Int))] []) (brP (decide (p2.snd ≥ (↑(List.length p0) : Int))) (Q [V1.one (Lf.bool false), V1.one (Lf.int IntKind.i64 (3 : Int))] []) (bound p2.snd (List.length p0) ∧ Q [V1.one (Lf.bool (getE K.bool p0 p2.snd)), V1.one (Lf.int IntKind.i64 (0 : Int))] []))) (brP (p2.fst == (1 : Int)) (brP (decide (p2.snd < (0 : Int))) (Q [V1.one (Lf.bool false), V1.one (Lf.int IntKind.i64 (3 : Int))] []) (brP (decide (p2.snd ≥ (↑(List.length p1.fst) : Int))) (Q [V1.one (Lf.bool false), V1.one (Lf.int IntKind.i64 (3 : Int))] []) (bound p2.snd (List.length p1.fst) ∧ Q [V1.one (Lf.bool (getE K.bool p1.fst p2.snd)), V1.one (Lf.int IntKind.i64 (0 : Int))] []))) (brP (p2.fst == (2 : Int)) (brP (decide (p2.snd < (0 : Int))) (Q [V1.one (Lf.bool false), V1.one (Lf.int IntKind.i64 (3 : Int))] []) (brP (decide (p2.snd ≥ (↑(List.length p1.snd.fst) : Int))) (Q [V1.one (Lf.bool false), V1.one (Lf.int IntKind.i64 (3 : Int))] []) (bound p2.snd (List.length p1.snd.fst) ∧ Q [V1.one (Lf.bool (getE K.bool p1.snd.fst p2.snd)), V1.one (Lf.int IntKind.i64 (0 : Int))] []))) (Q [V1.one (Lf.bool false), V1.one (Lf.int IntKind.i64 (8 : Int))] [])))
theorem t65_mono {Q : List V1 → List Ob → Prop} {Q' : List V1 → List Ob → Prop} (hq : ∀ r h, Q r h → Q' r h) (p0 : K.ty (K.slice (4 : TypeId) K.bool)) (p1 : K.ty k26) (p2 : K.ty k72) :
    t65 Q p0 p1 p2 → t65 Q' p0 p1 p2 :=
  brM (brM (hq _ _) (brM (hq _ _) (andM (id) (hq _ _)))) (brM (brM (hq _ _) (brM (hq _ _) (andM (id) (hq _ _)))) (brM (brM (hq _ _) (brM (hq _ _) (andM (id) (hq _ _)))) (hq _ _)))
theorem t65_eq (Q : List V1 → List Ob → Prop) (p0 : K.ty (K.slice (4 : TypeId) K.bool)) (p1 : K.ty k26) (p2 : K.ty k72) :
    t65 Q p0 p1 p2 = (afun tt E65 A65 Try.f65 (I65 p0 p1 p2) [] Q) := by kernel_rfl
def H65 (Q : List V1 → List Ob → Prop) (p0 : K.ty (K.slice (4 : TypeId) K.bool)) (p1 : K.ty k26) (p2 : K.ty k72) : Prop := t65 Q p0 p1 p2
theorem ok65 (Q : List V1 → List Ob → Prop) (p0 : K.ty (K.slice (4 : TypeId) K.bool)) (p1 : K.ty k26) (p2 : K.ty k72) (h : H65 Q p0 p1 p2) : Of (afun tt E65 A65 Try.f65 (I65 p0 p1 p2) [] Q) :=
  kcO (t65_eq Q p0 p1 p2) (t65_mono (fun _ _ h => h) p0 p1 p2 h)
theorem env65 : EnvOk Try.prog E65 := .nil
-- f66 "busbar/busbarref02.Set" ['25', '3', '4'] -> ['25']
def A66 : Ann := []
def E66 : Env := []
def I66 (p0 : ((.slice 4 .bool) : K).ty) (p1 : ((.int .i64) : K).ty) (p2 : (.bool : K).ty) : List V1 := [nfK (.slice 4 .bool) p0, nfK (.int .i64) p1, nfK .bool p2]
def t66 (Q : List V1 → List Ob → Prop) (p0 : K.ty (K.slice (4 : TypeId) K.bool)) (p1 : K.ty (K.int IntKind.i64)) (p2 : K.ty K.bool) : Prop :=
  room tt (4 : TypeId) (List.length (List.replicate (0 : Nat) (K.dflt K.bool)) + List.length p0) ∧ bound p1 (List.length (List.replicate (0 : Nat) (K.dflt K.bool) ++ p0)) ∧ Q [V1.one (Lf.own (0 : Nat))] [Ob.row (4 : TypeId) K.bool (List.set (List.replicate (0 : Nat) (K.dflt K.bool) ++ p0) (Int.toNat p1) p2)]
theorem t66_mono {Q : List V1 → List Ob → Prop} {Q' : List V1 → List Ob → Prop} (hq : ∀ r h, Q r h → Q' r h) (p0 : K.ty (K.slice (4 : TypeId) K.bool)) (p1 : K.ty (K.int IntKind.i64)) (p2 : K.ty K.bool) :
    t66 Q p0 p1 p2 → t66 Q' p0 p1 p2 :=
  andM (id) (andM (id) (hq _ _))
theorem t66_eq (Q : List V1 → List Ob → Prop) (p0 : K.ty (K.slice (4 : TypeId) K.bool)) (p1 : K.ty (K.int IntKind.i64)) (p2 : K.ty K.bool) :
    t66 Q p0 p1 p2 = (afun tt E66 A66 Try.f66 (I66 p0 p1 p2) [] Q) := by kernel_rfl
def H66 (Q : List V1 → List Ob → Prop) (p0 : K.ty (K.slice (4 : TypeId) K.bool)) (p1 : K.ty (K.int IntKind.i64)) (p2 : K.ty K.bool) : Prop := t66 Q p0 p1 p2
theorem ok66 (Q : List V1 → List Ob → Prop) (p0 : K.ty (K.slice (4 : TypeId) K.bool)) (p1 : K.ty (K.int IntKind.i64)) (p2 : K.ty K.bool) (h : H66 Q p0 p1 p2) : Of (afun tt E66 A66 Try.f66 (I66 p0 p1 p2) [] Q) :=
  kcO (t66_eq Q p0 p1 p2) (t66_mono (fun _ _ h => h) p0 p1 p2 h)
theorem env66 : EnvOk Try.prog E66 := .nil
-- f67 "busbar/busbarref03.Write" ['27', '73', '4'] -> ['27', '3']
def A67 : Ann := []
def E67 : Env := [(10, sp10)]
def I67 (p0 : (k26 : K).ty) (p1 : (k72 : K).ty) (p2 : (.bool : K).ty) : List V1 := [nfK k26 p0, nfK k72 p1, nfK .bool p2]
def t67 (Q : List V1 → List Ob → Prop) (p0 : K.ty k26) (p1 : K.ty k72) (p2 : K.ty K.bool) : Prop :=
  small p0 ∧ brP (p1.fst == (1 : Int)) (brP (decide (p1.snd < (0 : Int))) (Q [V1.agg [Lf.nils, Lf.nils, Lf.nils], V1.one (Lf.int IntKind.i64 (3 : Int))] []) (brP (decide (p1.snd ≥ (↑(List.length p0.fst) : Int))) (Q [V1.agg [Lf.nils, Lf.nils, Lf.nils], V1.one (Lf.int IntKind.i64 (3 : Int))] []) (bound p1.snd (List.length p0.fst) ∧ Q [V1.agg [Lf.own (0 : Nat), Lf.own ((0 : Nat) + (1 : Nat)), Lf.own ((0 : Nat) + (1 : Nat) + (1 : Nat))], V1.one (Lf.int IntKind.i64 (0 : Int))] [Ob.row (4 : TypeId) K.bool (List.set p0.fst (Int.toNat p1.snd) p2), Ob.row (4 : TypeId) K.bool p0.snd.fst, Ob.row (4 : TypeId) K.bool p0.snd.snd]))) (brP (p1.fst == (2 : Int)) (brP (decide (p1.snd < (0 : Int))) (Q [V1.agg [Lf.nils, Lf.nils, Lf.nils], V1.one (Lf.int IntKind.i64 (3 : Int))] []) (brP (decide (p1.snd ≥ (↑(List.length p0.snd.fst) : Int))) (Q [V1.agg [Lf.nils, Lf.nils, Lf.nils], V1.one (Lf.int IntKind.i64 (3 : Int))] []) (bound p1.snd (List.length p0.snd.fst) ∧ Q [V1.agg [Lf.own (0 : Nat), Lf.own ((0 : Nat) + (1 : Nat)), Lf.own ((0 : Nat) + (1 : Nat) + (1 : Nat))], V1.one (Lf.int IntKind.i64 (0 : Int))] [Ob.row (4 : TypeId) K.bool p0.fst, Ob.row (4 : TypeId) K.bool (List.set p0.snd.fst (Int.toNat p1.snd) p2), Ob.row (4 : TypeId) K.bool p0.snd.snd]))) (Q [V1.agg [Lf.nils, Lf.nils, Lf.nils], V1.one (Lf.int IntKind.i64 (8 : Int))] []))
theorem t67_mono {Q : List V1 → List Ob → Prop} {Q' : List V1 → List Ob → Prop} (hq : ∀ r h, Q r h → Q' r h) (p0 : K.ty k26) (p1 : K.ty k72) (p2 : K.ty K.bool) :
    t67 Q p0 p1 p2 → t67 Q' p0 p1 p2 :=
  andM (id) (brM (brM (hq _ _) (brM (hq _ _) (andM (id) (hq _ _)))) (brM (brM (hq _ _) (brM (hq _ _) (andM (id) (hq _ _)))) (hq _ _)))
theorem t67_eq (Q : List V1 → List Ob → Prop) (p0 : K.ty k26) (p1 : K.ty k72) (p2 : K.ty K.bool) :
    t67 Q p0 p1 p2 = (afun tt E67 A67 Try.f67 (I67 p0 p1 p2) [] Q) := by kernel_rfl
def H67 (Q : List V1 → List Ob → Prop) (p0 : K.ty k26) (p1 : K.ty k72) (p2 : K.ty K.bool) : Prop := t67 Q p0 p1 p2
theorem ok67 (Q : List V1 → List Ob → Prop) (p0 : K.ty k26) (p1 : K.ty k72) (p2 : K.ty K.bool) (h : H67 Q p0 p1 p2) : Of (afun tt E67 A67 Try.f67 (I67 p0 p1 p2) [] Q) :=
  kcO (t67_eq Q p0 p1 p2) (t67_mono (fun _ _ h => h) p0 p1 p2 h)
theorem env67 : EnvOk Try.prog E67 := .cons spec10 (by kernel_rfl) <| .nil
-- f32 "busbar/busbarref16.EdgeCount" ['46'] -> ['3']
def A32 : Ann := [(0, [1, 3, 4], [3], [2])]
def E32 : Env := []
def I32 (p0 : (k45 : K).ty) : List V1 := [nfK k45 p0]
noncomputable def L32_0 : Code := Code.a (Code.a (Code.b (Code.a (Code.b (Code.b (Func.code Try.f32))))))
def S32_0 (x3 : Int) (x4 : Int) (sh0_0 : ByteArray) (lh0_1 : List (K.ty k74)) (lh0_2 : List (K.ty k76)) (sh0_3 : ByteArray) : St := sp (31 : Nat) [((1 : Nat), V.v (V1.one (Lf.ptr (nat_lit 0) (nat_lit 0)))), ((3 : Nat), V.v (V1.one (Lf.int IntKind.i64 x3))), ((4 : Nat), V.v (V1.one (Lf.int IntKind.i64 x4)))] [Ob.box (46 : Nat) [Lf.str sh0_0, Lf.sl (75 : TypeId) k74 lh0_1, Lf.sl (77 : TypeId) k76 lh0_2, Lf.str sh0_3]]
def X32_0_0 (x3 : Int) : St := sp (31 : Nat) [((3 : Nat), V.v (V1.one (Lf.int IntKind.i64 x3)))] []
def t32_0 (again : Int → Int → ByteArray → List (K.ty k74) → List (K.ty k76) → ByteArray → Prop) (R0 : Int → Prop) (x3 : Int) (x4 : Int) (sh0_0 : ByteArray) (lh0_1 : List (K.ty k74)) (lh0_2 : List (K.ty k76)) (sh0_3 : ByteArray) : Prop :=
  brP (decide (x4 < (↑(List.length lh0_1) : Int))) (bound x4 (List.length lh0_1) ∧ brP ((getE k74 lh0_1 x4).fst == (2 : Int)) (again (IntKind.wrap IntKind.i64 (x3 + (1 : Int))) (IntKind.wrap IntKind.i64 (x4 + (1 : Int))) sh0_0 lh0_1 lh0_2 sh0_3) (bound x4 (List.length lh0_1) ∧ brP ((getE k74 lh0_1 x4).fst == (3 : Int)) (again (IntKind.wrap IntKind.i64 (x3 + (1 : Int))) (IntKind.wrap IntKind.i64 (x4 + (1 : Int))) sh0_0 lh0_1 lh0_2 sh0_3) (again x3 (IntKind.wrap IntKind.i64 (x4 + (1 : Int))) sh0_0 lh0_1 lh0_2 sh0_3))) (R0 x3)
theorem t32_0_mono {again : Int → Int → ByteArray → List (K.ty k74) → List (K.ty k76) → ByteArray → Prop} {R0 : Int → Prop} {again' : Int → Int → ByteArray → List (K.ty k74) → List (K.ty k76) → ByteArray → Prop} {R0' : Int → Prop} (ha : ∀ x3 x4 sh0_0 lh0_1 lh0_2 sh0_3, again x3 x4 sh0_0 lh0_1 lh0_2 sh0_3 → again' x3 x4 sh0_0 lh0_1 lh0_2 sh0_3) (hr0 : ∀ x3, R0 x3 → R0' x3) (x3 : Int) (x4 : Int) (sh0_0 : ByteArray) (lh0_1 : List (K.ty k74)) (lh0_2 : List (K.ty k76)) (sh0_3 : ByteArray) :
    t32_0 again R0 x3 x4 sh0_0 lh0_1 lh0_2 sh0_3 → t32_0 again' R0' x3 x4 sh0_0 lh0_1 lh0_2 sh0_3 :=
  brM (andM (id) (brM (ha _ _ _ _ _ _) (andM (id) (brM (ha _ _ _ _ _ _) (ha _ _ _ _ _ _))))) (hr0 _)
theorem t32_0_eq (n : Nat) (Q : Ex → St → Prop) (x3 : Int) (x4 : Int) (sh0_0 : ByteArray) (lh0_1 : List (K.ty k74)) (lh0_2 : List (K.ty k76)) (sh0_3 : ByteArray) :
    t32_0 (fun x3 x4 sh0_0 lh0_1 lh0_2 sh0_3 => loopP (awp tt E32 A32 L32_0 0) ([(1 : Nat), (3 : Nat), (4 : Nat)], [(3 : Nat)], [(2 : Nat)]) n (S32_0 x3 x4 sh0_0 lh0_1 lh0_2 sh0_3) Q) (fun x3 => Q (Ex.exit (nat_lit 0)) (X32_0_0 x3)) x3 x4 sh0_0 lh0_1 lh0_2 sh0_3 = (loopP (awp tt E32 A32 L32_0 0) ([(1 : Nat), (3 : Nat), (4 : Nat)], [(3 : Nat)], [(2 : Nat)]) (n + 1) (S32_0 x3 x4 sh0_0 lh0_1 lh0_2 sh0_3) Q) := by kernel_rfl
def G32_0 (R0 : Int → Prop) : Nat → Int → Int → ByteArray → List (K.ty k74) → List (K.ty k76) → ByteArray → Prop
  | 0, _, _, _, _, _, _ => False
  | n + 1, x3, x4, sh0_0, lh0_1, lh0_2, sh0_3 => t32_0 (G32_0 R0 n) R0 x3 x4 sh0_0 lh0_1 lh0_2 sh0_3
theorem T32_0 {R0 : Int → Prop} (Q : Ex → St → Prop) (hr0 : ∀ x3, R0 x3 → Of (Q (Ex.exit (nat_lit 0)) (X32_0_0 x3))) : ∀ (n : Nat) (x3 : Int) (x4 : Int) (sh0_0 : ByteArray) (lh0_1 : List (K.ty k74)) (lh0_2 : List (K.ty k76)) (sh0_3 : ByteArray), G32_0 R0 n x3 x4 sh0_0 lh0_1 lh0_2 sh0_3 → Of (loopP (awp tt E32 A32 L32_0 0) ([(1 : Nat), (3 : Nat), (4 : Nat)], [(3 : Nat)], [(2 : Nat)]) n (S32_0 x3 x4 sh0_0 lh0_1 lh0_2 sh0_3) Q) := by
  intro n
  induction n with
  | zero => intro x3 x4 sh0_0 lh0_1 lh0_2 sh0_3 h; exact h.elim
  | succ n ih =>
    intro x3 x4 sh0_0 lh0_1 lh0_2 sh0_3 h
    exact kcO (t32_0_eq n Q x3 x4 sh0_0 lh0_1 lh0_2 sh0_3) (t32_0_mono (fun _ _ _ _ _ _ h => (ih _ _ _ _ _ _ h).out) (fun _ h => (hr0 _ h).out) x3 x4 sh0_0 lh0_1 lh0_2 sh0_3 h)
def t32 (Q : List V1 → List Ob → Prop) (lp0 : K.ty k45 → Prop) (p0 : K.ty k45) : Prop :=
  lp0 p0
theorem t32_mono {Q : List V1 → List Ob → Prop} {Q' : List V1 → List Ob → Prop} {lp0 : K.ty k45 → Prop} {lp0' : K.ty k45 → Prop} (hq : ∀ r h, Q r h → Q' r h) (hlp0 : ∀ p0, lp0 p0 → lp0' p0) (p0 : K.ty k45) :
    t32 Q lp0 p0 → t32 Q' lp0' p0 :=
  hlp0 _
theorem t32_eq (Q : List V1 → List Ob → Prop) (p0 : K.ty k45) :
    t32 Q (fun p0 => ∃ m, loopP (awp tt E32 A32 L32_0 0) ([(1 : Nat), (3 : Nat), (4 : Nat)], [(3 : Nat)], [(2 : Nat)]) m (S32_0 ((0 : Int)) ((0 : Int)) (p0.fst) (p0.snd.fst) (p0.snd.snd.fst) (p0.snd.snd.snd)) (blkC (0 : Nat) (seqC (awp tt E32 A32 (Code.b (Code.b (Code.b (Func.code Try.f32)))) (0 : Nat)) (topC tt Try.f32 0 Q)))) p0 = (afun tt E32 A32 Try.f32 (I32 p0) [] Q) := by kernel_rfl
def t32c0x0 (Q : List V1 → List Ob → Prop) (p0 : K.ty k45) (x3e1 : Int) : Prop :=
  Q [V1.one (Lf.int IntKind.i64 x3e1)] []
theorem t32c0x0_mono {Q : List V1 → List Ob → Prop} {Q' : List V1 → List Ob → Prop} (hq : ∀ r h, Q r h → Q' r h) (p0 : K.ty k45) (x3e1 : Int) :
    t32c0x0 Q p0 x3e1 → t32c0x0 Q' p0 x3e1 :=
  hq _ _
theorem t32c0x0_eq (Q : List V1 → List Ob → Prop) (p0 : K.ty k45) (x3e1 : Int) :
    t32c0x0 Q p0 x3e1 = ((blkC (0 : Nat) (seqC (awp tt E32 A32 (Code.b (Code.b (Code.b (Func.code Try.f32)))) (0 : Nat)) (topC tt Try.f32 0 Q))) (Ex.exit (nat_lit 0)) (X32_0_0 x3e1)) := by kernel_rfl
def H32 (Q : List V1 → List Ob → Prop) (p0 : K.ty k45) : Prop := t32 Q (fun p0 => ∃ m, G32_0 (fun x3e1 => t32c0x0 Q p0 x3e1) m ((0 : Int)) ((0 : Int)) (p0.fst) (p0.snd.fst) (p0.snd.snd.fst) (p0.snd.snd.snd)) p0
theorem ok32 (Q : List V1 → List Ob → Prop) (p0 : K.ty k45) (h : H32 Q p0) : Of (afun tt E32 A32 Try.f32 (I32 p0) [] Q) :=
  kcO (t32_eq Q p0) (t32_mono (fun _ _ h => h) (fun p0 ⟨m, h⟩ => ⟨m, (T32_0 _ (fun x3e1 h => kcO (t32c0x0_eq _ _ _) (t32c0x0_mono (fun _ _ h => h) _ _ h)) m _ _ _ _ _ _ h).out⟩) p0 h)
theorem env32 : EnvOk Try.prog E32 := .nil
theorem loop62 (w : ByteArray) (R0 : Bool → Prop) (R1 : Prop) (hw : w.size ≤ 16) : ∀ n k (i : Nat), k < n → i + k = w.size → (i = 0 → letter (byteAt w 0) = true) → (nameFrom w i k = true → R1) → (nameFrom w i k = false → R0 false) → G62_0 R0 R1 n w i := by
  intro n
  induction n with
  | zero => intro k i h; omega
  | succ n ih =>
    intro k i hk hi hz h1 h0
    refine brP_intro (fun c => ?_) (fun c => ?_)
    · have c : i < w.size := by simpa using c
      cases k with
      | zero => omega
      | succ k =>
        rw [nameFrom_succ] at h1 h0
        have hb : bound (i : Int) w.size := ⟨by omega, by omega⟩
        have hwr : IntKind.i64.wrap ((i : Int) + 1) = ((i + 1 : Nat) : Int) := by rw [wrap_in (by omega) (by omega)]; omega
        have key : nameCh (i == 0) (byteAt w i) = true → G62_0 R0 R1 n w (IntKind.i64.wrap ((i : Int) + 1)) := fun hc => by
          rw [hwr]
          exact ih k (i + 1) (by omega) (by omega) (by omega) (fun h => h1 (by simp [hc, h])) (fun h => h0 (by simp [h]))
        have bad : nameCh (i == 0) (byteAt w i) = false → R0 false := fun hc => h0 (by simp [hc])
        refine ⟨hb, ?_⟩
        rw [Int.toNat_natCast]
        cases hl : letter (byteAt w i) with
        | true => exact brP_intro (fun e => by cases e) (fun _ => key (by simp [nameCh, hl]))
        | false =>
          have hi0 : i ≠ 0 := fun e => by subst e; rw [hz rfl] at hl; cases hl
          have hf : (i == 0) = false := by simpa using hi0
          rw [hf] at key bad
          unfold nameCh at key bad
          rw [hl] at key bad
          simp only [Bool.false_or, Bool.not_false, Bool.true_and] at key bad
          refine brP_intro (fun _ => ⟨hb, ?_⟩) (fun e => by cases e)
          refine brP_intro (fun e => ⟨hb, ?_⟩) (fun e => key ?_)
          · have e : ¬ byteAt w i = 95 := by simpa using e
            refine brP_intro (fun f => bad ?_) (fun f => ⟨hb, ?_⟩)
            · have f : byteAt w i < 48 := by simpa using f
              simp [e]; omega
            · have f : ¬ byteAt w i < 48 := by simpa using f
              refine brP_intro (fun g => bad ?_) (fun g => key ?_)
              · have g : byteAt w i > 57 := by simpa using g
                simp [e]; omega
              · have g : ¬ byteAt w i > 57 := by simpa using g
                simp [e]; omega
          · have e : byteAt w i = 95 := by simpa using e
            simp [e]
    · have c : ¬ i < w.size := by simpa using c
      obtain rfl : k = 0 := by omega
      exact h1 rfl
theorem spec62 : SpecOk Try.prog 62 sp62 := S1.ok tt_ok mixed env62 Try.func62 fun w Q h => ok62 Q w <| by
  unfold F53 isName at h
  refine brP_intro (fun c => ?_) (fun c => ?_)
  · rw [strEq] at c
    have c : w.size = 0 := (size_zero_iff w).1 (by simpa using c)
    simpa [c] using h
  · rw [strEq] at c
    have c : w.size ≠ 0 := fun h => by simp [(size_zero_iff w).2 h] at c
    refine brP_intro (fun d => ?_) (fun d => ?_)
    · have d : 16 < w.size := by simp at d; omega
      simpa [c, d] using h
    · have d : ¬ 16 < w.size := by simp at d; omega
      have c' : (w.size == 0) = false := by simpa using c
      simp only [c', d, decide_false, cond_false] at h
      rw [List.range_eq_range'] at h
      have h : Q [.one (.bool (nameFrom w 0 w.size))] [] := h
      refine ⟨⟨by omega, by omega⟩, ?_⟩
      obtain ⟨m, hm⟩ : ∃ m, w.size = m + 1 := ⟨w.size - 1, by omega⟩
      have hs : nameFrom w 0 w.size = (letter (byteAt w 0) && nameFrom w (0 + 1) m) := by rw [hm, nameFrom_succ]; simp [nameCh]
      cases hl : letter (byteAt w 0) with
      | false =>
        rw [hs, hl] at h
        refine brP_intro (fun _ => h) (fun e => ?_)
        have e : (!letter (byteAt w 0)) = false := e
        rw [hl] at e
        cases e
      | true =>
        refine brP_intro (fun e => ?_) (fun _ => ?_)
        · have e : (!letter (byteAt w 0)) = true := e
          rw [hl] at e
          cases e
        · refine ⟨w.size + 1, loop62 w _ _ (by omega) _ w.size 0 (by omega) (by omega) (fun _ => hl) (fun e => ?_) (fun e => ?_)⟩
          · rw [e] at h; exact h
          · rw [e] at h; exact h
theorem part65 (Q : QT) (x : List Bool) (n : Int) (h : Q [.one (.bool (get x n).1), .one (.int .i64 (get x n).2)] []) :
    brP (decide (n < (0 : Int))) (Q [.one (.bool false), .one (.int .i64 3)] []) (brP (decide (n ≥ (x.length : Int))) (Q [.one (.bool false), .one (.int .i64 3)] []) (bound n x.length ∧ Q [.one (.bool (getE K.bool x n)), .one (.int .i64 0)] [])) := by
  unfold get at h
  have no : ¬ bound n x.length → isIn x.length n = false := fun hn => by
    cases hc : isIn x.length n with
    | false => rfl
    | true => exact absurd (isIn_iff.1 hc) hn
  refine brP_intro (fun c => ?_) (fun c => ?_)
  · have c := of_decide_eq_true c
    rw [no fun hb => by have := hb.1; omega] at h; exact h
  · have c := of_decide_eq_false c
    refine brP_intro (fun d => ?_) (fun d => ?_)
    · have d := of_decide_eq_true d
      rw [no fun hb => by have := hb.2; omega] at h; exact h
    · have d := of_decide_eq_false d
      have hb : bound n x.length := ⟨by omega, by omega⟩
      rw [isIn_iff.2 hb] at h
      exact ⟨hb, h⟩
theorem readS_get (l : List Bool) (s : Sta) (k n : Int) : (0 ≤ k → k < 3 → readS l s (k, n) = get (img l s k) n) ∧ (¬ k = 0 → ¬ k = 1 → ¬ k = 2 → readS l s (k, n) = (false, 8)) := by
  unfold readS
  refine ⟨fun h1 h2 => ?_, fun h0 h1 h2 => ?_⟩
  · rw [decide_eq_false (show ¬ k < 0 by omega), decide_eq_false (show ¬ k ≥ 3 by omega)]; rfl
  · by_cases h3 : k < 0
    · rw [decide_eq_true h3]; rfl
    · rw [decide_eq_false h3, decide_eq_true (show k ≥ 3 by omega)]; rfl
theorem spec65 : SpecOk Try.prog 65 sp65 := S3.ok tt_ok mixed env65 Try.func65 fun l s a Q h => ok65 Q l s a <| by
  obtain ⟨k, n⟩ := a
  have h : Q [.one (.bool (readS l s (k, n)).1), .one (.int .i64 (readS l s (k, n)).2)] [] := h
  obtain ⟨g1, g2⟩ := readS_get l s k n
  refine brP_intro (fun c => ?_) (fun c => brP_intro (fun d => ?_) (fun d => brP_intro (fun e => ?_) (fun e => ?_)))
  · obtain rfl : k = 0 := eq_of_beq c
    rw [g1 (by decide) (by decide)] at h
    exact part65 Q l n h
  · obtain rfl : k = 1 := eq_of_beq d
    rw [g1 (by decide) (by decide)] at h
    exact part65 Q s.1 n h
  · obtain rfl : k = 2 := eq_of_beq e
    rw [g1 (by decide) (by decide)] at h
    exact part65 Q s.2.1 n h
  · rw [g2 (by rintro rfl; cases c) (by rintro rfl; cases d) (by rintro rfl; cases e)] at h
    exact h
theorem spec66 : SpecOk Try.prog 66 sp66 := S3.okS tt_ok mixed [kbs] env66 Try.func66 fun (l : List Bool) (n : Int) (v : Bool) Q h => ok66 _ l n v <| by
  obtain ⟨⟨hl, hb⟩, h⟩ := h
  have e : List.replicate 0 (K.dflt K.bool) ++ l = l := rfl
  unfold H66 t66
  rw [e]
  exact ⟨room4 (by simpa using hl), hb, h⟩
theorem setI_cases (l : List Bool) (n : Int) (v : Bool) : (n < 0 ∨ n ≥ (l.length : Int)) ∧ setI l n v = ([], 3) ∨ (¬ n < 0 ∧ ¬ n ≥ (l.length : Int)) ∧ setI l n v = (l.set n.toNat v, 0) := by
  by_cases hb : bound n l.length
  · right
    refine ⟨⟨by have := hb.1; omega, by have := hb.2; omega⟩, ?_⟩
    unfold setI; rw [isIn_iff.2 hb]; rfl
  · left
    have hf : isIn l.length n = false := by
      cases hc : isIn l.length n with
      | false => rfl
      | true => exact absurd (isIn_iff.1 hc) hb
    refine ⟨?_, by unfold setI; rw [hf]; rfl⟩
    by_cases h0 : n < 0
    · exact .inl h0
    · right
      by_cases h1 : n ≥ (l.length : Int)
      · exact h1
      · exact absurd ⟨by omega, by omega⟩ hb
theorem tree67 (s : Sta) (k n : Int) (v : Bool) (Q : QT) (hs : small s) (h : Q [nfK k26 (writeS s (k, n) v).1, .one (.int .i64 (writeS s (k, n) v).2)] []) : H67 (SQ [k26, ki] Q) s (k, n) v := by
  unfold writeS at h
  have nb : ∀ l : List Bool, (n < 0 ∨ n ≥ (l.length : Int)) → (setI l n v).2 = 3 := fun l hn => by
    rcases setI_cases l n v with ⟨_, e⟩ | ⟨h1, _⟩
    · rw [e]
    · omega
  have ob : ∀ l : List Bool, ¬ n < 0 → ¬ n ≥ (l.length : Int) → setI l n v = (l.set n.toNat v, 0) := fun l h1 h2 => by
    rcases setI_cases l n v with ⟨h3, _⟩ | ⟨_, e⟩
    · omega
    · exact e
  refine ⟨hs, brP_intro (fun c => ?_) (fun c => ?_)⟩
  · have c : (k == 1) = true := c
    rw [c] at h
    simp only [cond_true] at h
    refine brP_intro (fun d => ?_) (fun d => brP_intro (fun e => ?_) (fun e => ?_))
    · rw [nb s.1 (.inl (of_decide_eq_true d))] at h; exact h
    · rw [nb s.1 (.inr (of_decide_eq_true e))] at h; exact h
    · have d : ¬ n < 0 := of_decide_eq_false d
      have e : ¬ n ≥ (s.1.length : Int) := of_decide_eq_false e
      rw [ob s.1 d e] at h
      exact ⟨⟨by omega, by omega⟩, h⟩
  · have c : (k == 1) = false := c
    rw [c] at h
    simp only [cond_false] at h
    refine brP_intro (fun c2 => ?_) (fun c2 => ?_)
    · have c2 : (k == 2) = true := c2
      rw [c2] at h
      simp only [cond_true] at h
      refine brP_intro (fun d => ?_) (fun d => brP_intro (fun e => ?_) (fun e => ?_))
      · rw [nb s.2.1 (.inl (of_decide_eq_true d))] at h; exact h
      · rw [nb s.2.1 (.inr (of_decide_eq_true e))] at h; exact h
      · have d : ¬ n < 0 := of_decide_eq_false d
        have e : ¬ n ≥ (s.2.1.length : Int) := of_decide_eq_false e
        rw [ob s.2.1 d e] at h
        exact ⟨⟨by omega, by omega⟩, h⟩
    · have c2 : (k == 2) = false := c2
      rw [c2] at h
      exact h
theorem spec67 : SpecOk Try.prog 67 sp67 := S3.okS tt_ok mixed [k26, ki] env67 Try.func67 fun (s : Sta) a (v : Bool) Q h => ok67 _ s a v (tree67 s a.1 a.2 v Q h.1 h.2)
theorem loop32 (l : List k74.ty) (a : ByteArray) (b : List k76.ty) (c : ByteArray) (R : Int → Prop) (hl : l.length ≤ 4611686018427387904) : ∀ n (i : Nat) (x : Int), l.length - i < n → i ≤ l.length → 0 ≤ x → x ≤ i →
    R (x + ((l.drop i).countP isEdge : Nat)) → G32_0 R n x i a l b c := by
  intro n
  induction n with
  | zero => intro i x h; omega
  | succ n ih =>
    intro i x hn hi hx hxi hR
    have hw : ∀ y : Int, 0 ≤ y → y ≤ i → IntKind.i64.wrap (y + 1) = y + 1 := fun y h1 h2 => wrap_in (by omega) (by omega)
    refine brP_intro (fun h => ?_) (fun h => ?_)
    · simp at h
      have hc := getE_cons k74 l i (by omega)
      rw [hc] at hR
      have hb : bound (i : Int) l.length := ⟨by omega, by omega⟩
      have hw1 : IntKind.i64.wrap ((i : Int) + 1) = ((i + 1 : Nat) : Int) := by rw [hw i (by omega) (by omega)]; omega
      rw [hw x hx hxi, hw1]
      have yes : isEdge (getE k74 l i) = true → G32_0 R n (x + 1) ((i + 1 : Nat) : Int) a l b c := fun h1 => by
        simp [h1] at hR
        exact ih (i + 1) (x + 1) (by omega) (by omega) (by omega) (by omega) (by rw [Int.add_assoc, Int.add_comm 1]; exact hR)
      have no : isEdge (getE k74 l i) = false → G32_0 R n x ((i + 1 : Nat) : Int) a l b c := fun h1 => by
        simp [h1] at hR
        exact ih (i + 1) x (by omega) (by omega) hx (by omega) hR
      unfold isEdge at yes no
      refine ⟨hb, brP_intro (fun h1 => yes (by rw [h1]; rfl)) (fun h1 => ⟨hb, ?_⟩)⟩
      exact brP_intro (fun h2 => yes (by rw [h1, h2]; rfl)) (fun h2 => no (by rw [h1, h2]; rfl))
    · simp at h
      rw [show i = l.length by omega] at hR
      simpa using hR
theorem spec32 : SpecOk Try.prog 32 sp32 := S1.ok tt_ok mixed env32 Try.func32 fun r Q h => ok32 Q r
  ⟨_, loop32 r.2.1 r.1 r.2.2.1 r.2.2.2 _ h.1 (r.2.1.length + 1) 0 0 (by omega) (by omega) (by omega) (by omega) (by simpa [t32c0x0] using h.2)⟩
end Go.AM
