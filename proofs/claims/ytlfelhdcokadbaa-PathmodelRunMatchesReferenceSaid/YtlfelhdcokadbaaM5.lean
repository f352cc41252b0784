/- What the law's row leans on, part 5: an abstract machine over loaded code, functions of the program and their specs. Conditions: none. -/
import Derived.Below
import Derived.Deep.Draws
import Derived.Laws.MakeOwn
import Derived.OrdersHeld
import Derived.KernelRfl
import Derived.Laws.Small
import Derived.Laws.Cover3
import Derived.Laws.RangeAny
import Derived.Laws.Strings
import Derived.Great.BuildSlice
import Derived.MapKept
import Derived.Deep.LoopGhost
import Derived.OrdersIn
import Derived.TacticsIn
import Derived.RangeFuncNested
import Derived.Lib.SlicesS
import Derived.Test.YtlfelhdcokadbaaProg
import Derived.Test.YtlfelhdcokadbaaM4
set_option linter.all false
namespace Go.AM
open Go.Proofs
-- f17 "busbar/busbarref20.SlotBases" ['24'] -> ['40']
def A17 : Ann := [(0, [1, 3, 4], [3], [2])]
def E17 : Env := [(32, sp32)]
def I17 (p0 : (k23 : K).ty) : List V1 := [nfK k23 p0]
noncomputable def L17_0 : Code := Code.a (Code.a (Code.b (Code.a (Code.b (Code.b (Func.code Try.f17))))))
def S17_0 (x4 : Int) (xh0_0 : Int) (xh0_1 : Int) (xh0_2 : Int) (lh0_3 : List (K.ty k45)) (w1 : List (K.ty ((3 : TypeId), K.int IntKind.i64).snd)) : St := sp (28 : Nat) [((1 : Nat), V.v (V1.one (Lf.ptr (nat_lit 0) (nat_lit 0)))), ((3 : Nat), V.v (V1.one (Lf.own (nat_lit 1)))), ((4 : Nat), V.v (V1.one (Lf.int IntKind.i64 x4)))] [Ob.box (24 : Nat) [Lf.int IntKind.i64 xh0_0, Lf.int IntKind.i64 xh0_1, Lf.int IntKind.i64 xh0_2, Lf.sl (46 : TypeId) k45 lh0_3], Ob.row (3 : TypeId) (K.int IntKind.i64) w1]
def X17_0_0 (w0 : List (K.ty (K.int IntKind.i64))) : St := sp (28 : Nat) [((3 : Nat), V.v (V1.one (Lf.own (nat_lit 0))))] [Ob.row (3 : TypeId) (K.int IntKind.i64) w0]
def t17_0 (again : Int → Int → Int → Int → List (K.ty k45) → List (K.ty ((3 : TypeId), K.int IntKind.i64).snd) → Prop) (R0 : List (K.ty (K.int IntKind.i64)) → Prop) (x4 : Int) (xh0_0 : Int) (xh0_1 : Int) (xh0_2 : Int) (lh0_3 : List (K.ty k45)) (w1 : List (K.ty ((3 : TypeId), K.int IntKind.i64).snd)) : Prop :=
  brP (decide (x4 < (↑(List.length lh0_3) : Int))) (bound x4 (List.length w1) ∧ (bound x4 (List.length lh0_3) ∧ List.length (getE k45 lh0_3 x4).snd.fst ≤ (4611686018427387904 : Nat) ∧ room tt (3 : TypeId) (List.length w1 + List.length (List.set (List.replicate (1 : Nat) (K.dflt (K.int IntKind.i64))) (0 : Nat) (IntKind.wrap IntKind.i64 (getE (K.int IntKind.i64) w1 x4 + (↑(List.countP isEdge (getE k45 lh0_3 x4).snd.fst) : Int))))) ∧ again (IntKind.wrap IntKind.i64 (x4 + (1 : Int))) xh0_0 xh0_1 xh0_2 lh0_3 (w1 ++ List.set (List.replicate (1 : Nat) (K.dflt (K.int IntKind.i64))) (0 : Nat) (IntKind.wrap IntKind.i64 (getE (K.int IntKind.i64) w1 x4 + (↑(List.countP isEdge (getE k45 lh0_3 x4).snd.fst) : Int))))) ∧ bound x4 (List.length lh0_3) ∧ (List.length (getE k45 lh0_3 x4).snd.fst ≤ (4611686018427387904 : Nat) ∧ room tt (3 : TypeId) (List.length w1 + List.length (List.set (List.replicate (1 : Nat) (K.dflt (K.int IntKind.i64))) (0 : Nat) (IntKind.wrap IntKind.i64 (getE (K.int IntKind.i64) w1 x4 + (↑(List.countP isEdge (getE k45 lh0_3 x4).snd.fst) : Int))))) ∧ again (IntKind.wrap IntKind.i64 (x4 + (1 : Int))) xh0_0 xh0_1 xh0_2 lh0_3 (w1 ++ List.set (List.replicate (1 : Nat) (K.dflt (K.int IntKind.i64))) (0 : Nat) (IntKind.wrap IntKind.i64 (getE (K.int IntKind.i64) w1 x4 + (↑(List.countP isEdge (getE k45 lh0_3 x4).snd.fst) : Int))))) ∧ (List.length (getE k45 lh0_3 x4).snd.fst ≤ (4611686018427387904 : Nat) ∧ room tt (3 : TypeId) (List.length w1 + List.length (List.set (List.replicate (1 : Nat) (K.dflt (K.int IntKind.i64))) (0 : Nat) (IntKind.wrap IntKind.i64 (getE (K.int IntKind.i64) w1 x4 + (↑(List.countP isEdge (getE k45 lh0_3 x4).snd.fst) : Int))))) ∧ again (IntKind.wrap IntKind.i64 (x4 + (1 : Int))) xh0_0 xh0_1 xh0_2 lh0_3 (w1 ++ List.set (List.replicate (1 : Nat) (K.dflt (K.int IntKind.i64))) (0 : Nat) (IntKind.wrap IntKind.i64 (getE (K.int IntKind.i64) w1 x4 + (↑(List.countP isEdge (getE k45 lh0_3 x4).snd.fst) : Int))))) ∧ List.length (getE k45 lh0_3 x4).snd.fst ≤ (4611686018427387904 : Nat) ∧ room tt (3 : TypeId) (List.length w1 + List.length (List.set (List.replicate (1 : Nat) (K.dflt (K.int IntKind.i64))) (0 : Nat) (IntKind.wrap IntKind.i64 (getE (K.int IntKind.i64) w1 x4 + (↑(List.countP isEdge (getE k45 lh0_3 x4).snd.fst) : Int))))) ∧ again (IntKind.wrap IntKind.i64 (x4 + (1 : Int))) xh0_0 xh0_1 xh0_2 lh0_3 (w1 ++ List.set (List.replicate (1 : Nat) (K.dflt (K.int IntKind.i64))) (0 : Nat) (IntKind.wrap IntKind.i64 (getE (K.int IntKind.i64) w1 x4 + (↑(List.countP isEdge (getE k45 lh0_3 x4).snd.fst) : Int))))) (R0 w1)
theorem t17_0_mono {again : Int → Int → Int → Int → List (K.ty k45) → List (K.ty ((3 : TypeId), K.int IntKind.i64).snd) → Prop} {R0 : List (K.ty (K.int IntKind.i64)) → Prop} {again' : Int → Int → Int → Int → List (K.ty k45) → List (K.ty ((3 : TypeId), K.int IntKind.i64).snd) → Prop} {R0' : List (K.ty (K.int IntKind.i64)) → Prop} (ha : ∀ x4 xh0_0 xh0_1 xh0_2 lh0_3 w1, again x4 xh0_0 xh0_1 xh0_2 lh0_3 w1 → again' x4 xh0_0 xh0_1 xh0_2 lh0_3 w1) (hr0 : ∀ w0, R0 w0 → R0' w0) (x4 : Int) (xh0_0 : Int) (xh0_1 : Int) (xh0_2 : Int) (lh0_3 : List (K.ty k45)) (w1 : List (K.ty ((3 : TypeId), K.int IntKind.i64).snd)) :
    t17_0 again R0 x4 xh0_0 xh0_1 xh0_2 lh0_3 w1 → t17_0 again' R0' x4 xh0_0 xh0_1 xh0_2 lh0_3 w1 :=
  brM (andM (id) (andM (andM (id) (andM (id) (andM (id) (ha _ _ _ _ _ _)))) (andM (id) (andM (andM (id) (andM (id) (ha _ _ _ _ _ _))) (andM (andM (id) (andM (id) (ha _ _ _ _ _ _))) (andM (id) (andM (id) (ha _ _ _ _ _ _)))))))) (hr0 _)
theorem t17_0_eq (n : Nat) (Q : Ex → St → Prop) (x4 : Int) (xh0_0 : Int) (xh0_1 : Int) (xh0_2 : Int) (lh0_3 : List (K.ty k45)) (w1 : List (K.ty ((3 : TypeId), K.int IntKind.i64).snd)) :
    t17_0 (fun x4 xh0_0 xh0_1 xh0_2 lh0_3 w1 => loopP (awp tt E17 A17 L17_0 0) ([(1 : Nat), (3 : Nat), (4 : Nat)], [(3 : Nat)], [(2 : Nat)]) n (S17_0 x4 xh0_0 xh0_1 xh0_2 lh0_3 w1) Q) (fun w0 => Q (Ex.exit (nat_lit 0)) (X17_0_0 w0)) x4 xh0_0 xh0_1 xh0_2 lh0_3 w1 = (loopP (awp tt E17 A17 L17_0 0) ([(1 : Nat), (3 : Nat), (4 : Nat)], [(3 : Nat)], [(2 : Nat)]) (n + 1) (S17_0 x4 xh0_0 xh0_1 xh0_2 lh0_3 w1) Q) := by kernel_rfl
def G17_0 (R0 : List (K.ty (K.int IntKind.i64)) → Prop) : Nat → Int → Int → Int → Int → List (K.ty k45) → List (K.ty ((3 : TypeId), K.int IntKind.i64).snd) → Prop
  | 0, _, _, _, _, _, _ => False
  | n + 1, x4, xh0_0, xh0_1, xh0_2, lh0_3, w1 => t17_0 (G17_0 R0 n) R0 x4 xh0_0 xh0_1 xh0_2 lh0_3 w1
theorem T17_0 {R0 : List (K.ty (K.int IntKind.i64)) → Prop} (Q : Ex → St → Prop) (hr0 : ∀ w0, R0 w0 → Of (Q (Ex.exit (nat_lit 0)) (X17_0_0 w0))) : ∀ (n : Nat) (x4 : Int) (xh0_0 : Int) (xh0_1 : Int) (xh0_2 : Int) (lh0_3 : List (K.ty k45)) (w1 : List (K.ty ((3 : TypeId), K.int IntKind.i64).snd)), G17_0 R0 n x4 xh0_0 xh0_1 xh0_2 lh0_3 w1 → Of (loopP (awp tt E17 A17 L17_0 0) ([(1 : Nat), (3 : Nat), (4 : Nat)], [(3 : Nat)], [(2 : Nat)]) n (S17_0 x4 xh0_0 xh0_1 xh0_2 lh0_3 w1) Q) := by
  intro n
  induction n with
  | zero => intro x4 xh0_0 xh0_1 xh0_2 lh0_3 w1 h; exact h.elim
  | succ n ih =>
    intro x4 xh0_0 xh0_1 xh0_2 lh0_3 w1 h
    exact kcO (t17_0_eq n Q x4 xh0_0 xh0_1 xh0_2 lh0_3 w1) (t17_0_mono (fun _ _ _ _ _ _ h => (ih _ _ _ _ _ _ h).out) (fun _ h => (hr0 _ h).out) x4 xh0_0 xh0_1 xh0_2 lh0_3 w1 h)
def t17 (Q : List V1 → List Ob → Prop) (lp0 : K.ty k23 → Prop) (p0 : K.ty k23) : Prop :=
  lp0 p0
theorem t17_mono {Q : List V1 → List Ob → Prop} {Q' : List V1 → List Ob → Prop} {lp0 : K.ty k23 → Prop} {lp0' : K.ty k23 → Prop} (hq : ∀ r h, Q r h → Q' r h) (hlp0 : ∀ p0, lp0 p0 → lp0' p0) (p0 : K.ty k23) :
    t17 Q lp0 p0 → t17 Q' lp0' p0 :=
  hlp0 _
theorem t17_eq (Q : List V1 → List Ob → Prop) (p0 : K.ty k23) :
    t17 Q (fun p0 => ∃ m, loopP (awp tt E17 A17 L17_0 0) ([(1 : Nat), (3 : Nat), (4 : Nat)], [(3 : Nat)], [(2 : Nat)]) m (S17_0 ((0 : Int)) (p0.fst) (p0.snd.fst) (p0.snd.snd.fst) (p0.snd.snd.snd) (List.set (List.replicate (1 : Nat) (K.dflt (K.int IntKind.i64))) (0 : Nat) (0 : Int))) (blkC (0 : Nat) (seqC (awp tt E17 A17 (Code.b (Code.b (Code.b (Func.code Try.f17)))) (0 : Nat)) (topC tt Try.f17 0 Q)))) p0 = (afun tt E17 A17 Try.f17 (I17 p0) [] Q) := by kernel_rfl
def t17c0x0 (Q : List V1 → List Ob → Prop) (p0 : K.ty k23) (w0e1 : List (K.ty (K.int IntKind.i64))) : Prop :=
  Q [V1.one (Lf.own (0 : Nat))] [Ob.row (3 : TypeId) (K.int IntKind.i64) w0e1]
theorem t17c0x0_mono {Q : List V1 → List Ob → Prop} {Q' : List V1 → List Ob → Prop} (hq : ∀ r h, Q r h → Q' r h) (p0 : K.ty k23) (w0e1 : List (K.ty (K.int IntKind.i64))) :
    t17c0x0 Q p0 w0e1 → t17c0x0 Q' p0 w0e1 :=
  hq _ _
theorem t17c0x0_eq (Q : List V1 → List Ob → Prop) (p0 : K.ty k23) (w0e1 : List (K.ty (K.int IntKind.i64))) :
    t17c0x0 Q p0 w0e1 = ((blkC (0 : Nat) (seqC (awp tt E17 A17 (Code.b (Code.b (Code.b (Func.code Try.f17)))) (0 : Nat)) (topC tt Try.f17 0 Q))) (Ex.exit (nat_lit 0)) (X17_0_0 w0e1)) := by kernel_rfl
def H17 (Q : List V1 → List Ob → Prop) (p0 : K.ty k23) : Prop := t17 Q (fun p0 => ∃ m, G17_0 (fun w0e1 => t17c0x0 Q p0 w0e1) m ((0 : Int)) (p0.fst) (p0.snd.fst) (p0.snd.snd.fst) (p0.snd.snd.snd) (List.set (List.replicate (1 : Nat) (K.dflt (K.int IntKind.i64))) (0 : Nat) (0 : Int))) p0
theorem ok17 (Q : List V1 → List Ob → Prop) (p0 : K.ty k23) (h : H17 Q p0) : Of (afun tt E17 A17 Try.f17 (I17 p0) [] Q) :=
  kcO (t17_eq Q p0) (t17_mono (fun _ _ h => h) (fun p0 ⟨m, h⟩ => ⟨m, (T17_0 _ (fun w0e1 h => kcO (t17c0x0_eq _ _ _) (t17c0x0_mono (fun _ _ h => h) _ _ h)) m _ _ _ _ _ _ h).out⟩) p0 h)
theorem env17 : EnvOk Try.prog E17 := .cons spec32 (by kernel_rfl) <| .nil
-- f47 "busbar/busbarref10.Behind" ['24', '3', '9'] -> ['4']
def A47 : Ann := [(0, [2, 3, 7], [], [6])]
def E47 : Env := []
def I47 (p0 : (k23 : K).ty) (p1 : ((.int .i64) : K).ty) (p2 : (.str : K).ty) : List V1 := [nfK k23 p0, nfK (.int .i64) p1, nfK .str p2]
noncomputable def L47_0 : Code := Code.a (Code.a (Code.b (Code.a (Code.b (Func.code Try.f47)))))
def S47_0 (s2 : ByteArray) (x7 : Int) (xh0_0 : Int) (xh0_1 : Int) (xh0_2 : Int) (lh0_3 : List (K.ty k45)) : St := sp (25 : Nat) [((2 : Nat), V.v (V1.one (Lf.str s2))), ((3 : Nat), V.v (V1.one (Lf.ptr (nat_lit 0) (nat_lit 0)))), ((7 : Nat), V.v (V1.one (Lf.int IntKind.i64 x7)))] [Ob.box (24 : Nat) [Lf.int IntKind.i64 xh0_0, Lf.int IntKind.i64 xh0_1, Lf.int IntKind.i64 xh0_2, Lf.sl (46 : TypeId) k45 lh0_3]]
def X47_0_0 (b6 : Bool) : St := sp (25 : Nat) [((6 : Nat), V.v (V1.one (Lf.bool b6)))] []
def X47_0_1 : St := sp (25 : Nat) [] []
def t47_0 (again : ByteArray → Int → Int → Int → Int → List (K.ty k45) → Prop) (R0 : Bool → Prop) (R1 : Prop) (s2 : ByteArray) (x7 : Int) (xh0_0 : Int) (xh0_1 : Int) (xh0_2 : Int) (lh0_3 : List (K.ty k45)) : Prop :=
  brP (decide (x7 < (↑(List.length lh0_3) : Int))) (bound x7 (List.length lh0_3) ∧ brP (ByteArray.toList (getE k45 lh0_3 x7).fst == ByteArray.toList s2) (R0 true) (again s2 (IntKind.wrap IntKind.i64 (x7 + (1 : Int))) xh0_0 xh0_1 xh0_2 lh0_3)) R1
theorem t47_0_mono {again : ByteArray → Int → Int → Int → Int → List (K.ty k45) → Prop} {R0 : Bool → Prop} {R1 : Prop} {again' : ByteArray → Int → Int → Int → Int → List (K.ty k45) → Prop} {R0' : Bool → Prop} {R1' : Prop} (ha : ∀ s2 x7 xh0_0 xh0_1 xh0_2 lh0_3, again s2 x7 xh0_0 xh0_1 xh0_2 lh0_3 → again' s2 x7 xh0_0 xh0_1 xh0_2 lh0_3) (hr0 : ∀ b6, R0 b6 → R0' b6) (hr1 :  R1 → R1') (s2 : ByteArray) (x7 : Int) (xh0_0 : Int) (xh0_1 : Int) (xh0_2 : Int) (lh0_3 : List (K.ty k45)) :
    t47_0 again R0 R1 s2 x7 xh0_0 xh0_1 xh0_2 lh0_3 → t47_0 again' R0' R1' s2 x7 xh0_0 xh0_1 xh0_2 lh0_3 :=
  brM (andM (id) (brM (hr0 _) (ha _ _ _ _ _ _))) (hr1)
theorem t47_0_eq (n : Nat) (Q : Ex → St → Prop) (s2 : ByteArray) (x7 : Int) (xh0_0 : Int) (xh0_1 : Int) (xh0_2 : Int) (lh0_3 : List (K.ty k45)) :
    t47_0 (fun s2 x7 xh0_0 xh0_1 xh0_2 lh0_3 => loopP (awp tt E47 A47 L47_0 0) ([(2 : Nat), (3 : Nat), (7 : Nat)], [], [(6 : Nat)]) n (S47_0 s2 x7 xh0_0 xh0_1 xh0_2 lh0_3) Q) (fun b6 => Q (Ex.ret) (X47_0_0 b6)) ( Q (Ex.exit (nat_lit 0)) (X47_0_1)) s2 x7 xh0_0 xh0_1 xh0_2 lh0_3 = (loopP (awp tt E47 A47 L47_0 0) ([(2 : Nat), (3 : Nat), (7 : Nat)], [], [(6 : Nat)]) (n + 1) (S47_0 s2 x7 xh0_0 xh0_1 xh0_2 lh0_3) Q) := by kernel_rfl
def G47_0 (R0 : Bool → Prop) (R1 : Prop) : Nat → ByteArray → Int → Int → Int → Int → List (K.ty k45) → Prop
  | 0, _, _, _, _, _, _ => False
  | n + 1, s2, x7, xh0_0, xh0_1, xh0_2, lh0_3 => t47_0 (G47_0 R0 R1 n) R0 R1 s2 x7 xh0_0 xh0_1 xh0_2 lh0_3
theorem T47_0 {R0 : Bool → Prop} {R1 : Prop} (Q : Ex → St → Prop) (hr0 : ∀ b6, R0 b6 → Of (Q (Ex.ret) (X47_0_0 b6))) (hr1 :  R1 → Of (Q (Ex.exit (nat_lit 0)) (X47_0_1))) : ∀ (n : Nat) (s2 : ByteArray) (x7 : Int) (xh0_0 : Int) (xh0_1 : Int) (xh0_2 : Int) (lh0_3 : List (K.ty k45)), G47_0 R0 R1 n s2 x7 xh0_0 xh0_1 xh0_2 lh0_3 → Of (loopP (awp tt E47 A47 L47_0 0) ([(2 : Nat), (3 : Nat), (7 : Nat)], [], [(6 : Nat)]) n (S47_0 s2 x7 xh0_0 xh0_1 xh0_2 lh0_3) Q) := by
  intro n
  induction n with
  | zero => intro s2 x7 xh0_0 xh0_1 xh0_2 lh0_3 h; exact h.elim
  | succ n ih =>
    intro s2 x7 xh0_0 xh0_1 xh0_2 lh0_3 h
    exact kcO (t47_0_eq n Q s2 x7 xh0_0 xh0_1 xh0_2 lh0_3) (t47_0_mono (fun _ _ _ _ _ _ h => (ih _ _ _ _ _ _ h).out) (fun _ h => (hr0 _ h).out) (fun h => (hr1 h).out) s2 x7 xh0_0 xh0_1 xh0_2 lh0_3 h)
def t47 (Q : List V1 → List Ob → Prop) (lp0 : K.ty k23 → K.ty (K.int IntKind.i64) → K.ty K.str → Prop) (p0 : K.ty k23) (p1 : K.ty (K.int IntKind.i64)) (p2 : K.ty K.str) : Prop :=
  lp0 p0 p1 p2
theorem t47_mono {Q : List V1 → List Ob → Prop} {Q' : List V1 → List Ob → Prop} {lp0 : K.ty k23 → K.ty (K.int IntKind.i64) → K.ty K.str → Prop} {lp0' : K.ty k23 → K.ty (K.int IntKind.i64) → K.ty K.str → Prop} (hq : ∀ r h, Q r h → Q' r h) (hlp0 : ∀ p0 p1 p2, lp0 p0 p1 p2 → lp0' p0 p1 p2) (p0 : K.ty k23) (p1 : K.ty (K.int IntKind.i64)) (p2 : K.ty K.str) :
    t47 Q lp0 p0 p1 p2 → t47 Q' lp0' p0 p1 p2 :=
  hlp0 _ _ _
theorem t47_eq (Q : List V1 → List Ob → Prop) (p0 : K.ty k23) (p1 : K.ty (K.int IntKind.i64)) (p2 : K.ty K.str) :
    t47 Q (fun p0 p1 p2 => ∃ m, loopP (awp tt E47 A47 L47_0 0) ([(2 : Nat), (3 : Nat), (7 : Nat)], [], [(6 : Nat)]) m (S47_0 (p2) (IntKind.wrap IntKind.i64 (p1 + (1 : Int))) (p0.fst) (p0.snd.fst) (p0.snd.snd.fst) (p0.snd.snd.snd)) (blkC (0 : Nat) (seqC (awp tt E47 A47 (Code.b (Code.b (Func.code Try.f47))) (0 : Nat)) (topC tt Try.f47 0 Q)))) p0 p1 p2 = (afun tt E47 A47 Try.f47 (I47 p0 p1 p2) [] Q) := by kernel_rfl
def t47c0x1 (Q : List V1 → List Ob → Prop) (p0 : K.ty k23) (p1 : K.ty (K.int IntKind.i64)) (p2 : K.ty K.str) : Prop :=
  Q [V1.one (Lf.bool false)] []
theorem t47c0x1_mono {Q : List V1 → List Ob → Prop} {Q' : List V1 → List Ob → Prop} (hq : ∀ r h, Q r h → Q' r h) (p0 : K.ty k23) (p1 : K.ty (K.int IntKind.i64)) (p2 : K.ty K.str) :
    t47c0x1 Q p0 p1 p2 → t47c0x1 Q' p0 p1 p2 :=
  hq _ _
theorem t47c0x1_eq (Q : List V1 → List Ob → Prop) (p0 : K.ty k23) (p1 : K.ty (K.int IntKind.i64)) (p2 : K.ty K.str) :
    t47c0x1 Q p0 p1 p2 = ((blkC (0 : Nat) (seqC (awp tt E47 A47 (Code.b (Code.b (Func.code Try.f47))) (0 : Nat)) (topC tt Try.f47 0 Q))) (Ex.exit (nat_lit 0)) (X47_0_1)) := by kernel_rfl
def t47c0x0 (Q : List V1 → List Ob → Prop) (p0 : K.ty k23) (p1 : K.ty (K.int IntKind.i64)) (p2 : K.ty K.str) (b6e3 : Bool) : Prop :=
  Q [V1.one (Lf.bool b6e3)] []
theorem t47c0x0_mono {Q : List V1 → List Ob → Prop} {Q' : List V1 → List Ob → Prop} (hq : ∀ r h, Q r h → Q' r h) (p0 : K.ty k23) (p1 : K.ty (K.int IntKind.i64)) (p2 : K.ty K.str) (b6e3 : Bool) :
    t47c0x0 Q p0 p1 p2 b6e3 → t47c0x0 Q' p0 p1 p2 b6e3 :=
  hq _ _
theorem t47c0x0_eq (Q : List V1 → List Ob → Prop) (p0 : K.ty k23) (p1 : K.ty (K.int IntKind.i64)) (p2 : K.ty K.str) (b6e3 : Bool) :
    t47c0x0 Q p0 p1 p2 b6e3 = ((blkC (0 : Nat) (seqC (awp tt E47 A47 (Code.b (Code.b (Func.code Try.f47))) (0 : Nat)) (topC tt Try.f47 0 Q))) (Ex.ret) (X47_0_0 b6e3)) := by kernel_rfl
def H47 (Q : List V1 → List Ob → Prop) (p0 : K.ty k23) (p1 : K.ty (K.int IntKind.i64)) (p2 : K.ty K.str) : Prop := t47 Q (fun p0 p1 p2 => ∃ m, G47_0 (fun b6e3 => t47c0x0 Q p0 p1 p2 b6e3) ( t47c0x1 Q p0 p1 p2) m (p2) (IntKind.wrap IntKind.i64 (p1 + (1 : Int))) (p0.fst) (p0.snd.fst) (p0.snd.snd.fst) (p0.snd.snd.snd)) p0 p1 p2
theorem ok47 (Q : List V1 → List Ob → Prop) (p0 : K.ty k23) (p1 : K.ty (K.int IntKind.i64)) (p2 : K.ty K.str) (h : H47 Q p0 p1 p2) : Of (afun tt E47 A47 Try.f47 (I47 p0 p1 p2) [] Q) :=
  kcO (t47_eq Q p0 p1 p2) (t47_mono (fun _ _ h => h) (fun p0 p1 p2 ⟨m, h⟩ => ⟨m, (T47_0 _ (fun b6e3 h => kcO (t47c0x0_eq _ _ _ _ _) (t47c0x0_mono (fun _ _ h => h) _ _ _ _ h)) (fun h => kcO (t47c0x1_eq _ _ _ _) (t47c0x1_mono (fun _ _ h => h) _ _ _ h)) m _ _ _ _ _ _ h).out⟩) p0 p1 p2 h)
theorem env47 : EnvOk Try.prog E47 := .nil
-- f63 "busbar/busbarref11.contacts" ['60', '46'] -> ['3']
def A63 : Ann := [(0, [2, 3, 5], [], [4])]
def E63 : Env := [(62, sp62), (73, sp73)]
def I63 (p0 : (k59 : K).ty) (p1 : (k45 : K).ty) : List V1 := [nfK k59 p0, nfK k45 p1]
noncomputable def L63_0 : Code := Code.a (Code.a (Code.b (Code.a (Code.b (Code.b (Func.code Try.f63))))))
def S63_0 (x5 : Int) (xh0_0 : Int) (xh0_1 : Int) (xh0_2 : Int) (xh0_3 : Int) (sh1_0 : ByteArray) (lh1_1 : List (K.ty k74)) (lh1_2 : List (K.ty k76)) (sh1_3 : ByteArray) : St := sp (49 : Nat) [((2 : Nat), V.v (V1.one (Lf.ptr (nat_lit 0) (nat_lit 0)))), ((3 : Nat), V.v (V1.one (Lf.ptr (nat_lit 1) (nat_lit 0)))), ((5 : Nat), V.v (V1.one (Lf.int IntKind.i64 x5)))] [Ob.box (60 : Nat) [Lf.int IntKind.i64 xh0_0, Lf.int IntKind.i64 xh0_1, Lf.int IntKind.i64 xh0_2, Lf.int IntKind.i64 xh0_3], Ob.box (46 : Nat) [Lf.str sh1_0, Lf.sl (75 : TypeId) k74 lh1_1, Lf.sl (77 : TypeId) k76 lh1_2, Lf.str sh1_3]]
def X63_0_0 (x4 : Int) : St := sp (49 : Nat) [((4 : Nat), V.v (V1.one (Lf.int IntKind.i64 x4)))] []
def X63_0_1 : St := sp (49 : Nat) [] []
def t63_0 (again : Int → Int → Int → Int → Int → ByteArray → List (K.ty k74) → List (K.ty k76) → ByteArray → Prop) (R0 : Int → Prop) (R1 : Prop) (x5 : Int) (xh0_0 : Int) (xh0_1 : Int) (xh0_2 : Int) (xh0_3 : Int) (sh1_0 : ByteArray) (lh1_1 : List (K.ty k74)) (lh1_2 : List (K.ty k76)) (sh1_3 : ByteArray) : Prop :=
  brP (decide (x5 < (↑(List.length lh1_1) : Int))) (bound x5 (List.length lh1_1) ∧ brP (decide ((getE k74 lh1_1 x5).fst < (0 : Int))) (R0 (8 : Int)) (brP (decide ((getE k74 lh1_1 x5).fst > (3 : Int))) (R0 (8 : Int)) (brP (checkAddr (xh0_0, xh0_1, xh0_2, xh0_3) (getE k74 lh1_1 x5).snd.fst != (0 : Int)) (R0 (checkAddr (xh0_0, xh0_1, xh0_2, xh0_3) (getE k74 lh1_1 x5).snd.fst)) (brP (!isName (getE k74 lh1_1 x5).snd.snd.fst) (R0 (6 : Int)) (brP (!isName (getE k74 lh1_1 x5).snd.snd.snd) (R0 (6 : Int)) (again (IntKind.wrap IntKind.i64 (x5 + (1 : Int))) xh0_0 xh0_1 xh0_2 xh0_3 sh1_0 lh1_1 lh1_2 sh1_3)))))) R1
theorem t63_0_mono {again : Int → Int → Int → Int → Int → ByteArray → List (K.ty k74) → List (K.ty k76) → ByteArray → Prop} {R0 : Int → Prop} {R1 : Prop} {again' : Int → Int → Int → Int → Int → ByteArray → List (K.ty k74) → List (K.ty k76) → ByteArray → Prop} {R0' : Int → Prop} {R1' : Prop} (ha : ∀ x5 xh0_0 xh0_1 xh0_2 xh0_3 sh1_0 lh1_1 lh1_2 sh1_3, again x5 xh0_0 xh0_1 xh0_2 xh0_3 sh1_0 lh1_1 lh1_2 sh1_3 → again' x5 xh0_0 xh0_1 xh0_2 xh0_3 sh1_0 lh1_1 lh1_2 sh1_3) (hr0 : ∀ x4, R0 x4 → R0' x4) (hr1 :  R1 → R1') (x5 : Int) (xh0_0 : Int) (xh0_1 : Int) (xh0_2 : Int) (xh0_3 : Int) (sh1_0 : ByteArray) (lh1_1 : List (K.ty k74)) (lh1_2 : List (K.ty k76)) (sh1_3 : ByteArray) :
    t63_0 again R0 R1 x5 xh0_0 xh0_1 xh0_2 xh0_3 sh1_0 lh1_1 lh1_2 sh1_3 → t63_0 again' R0' R1' x5 xh0_0 xh0_1 xh0_2 xh0_3 sh1_0 lh1_1 lh1_2 sh1_3 :=
  brM (andM (id) (brM (hr0 _) (brM (hr0 _) (brM (hr0 _) (brM (hr0 _) (brM (hr0 _) (ha _ _ _ _ _ _ _ _ _))))))) (hr1)
theorem t63_0_eq (n : Nat) (Q : Ex → St → Prop) (x5 : Int) (xh0_0 : Int) (xh0_1 : Int) (xh0_2 : Int) (xh0_3 : Int) (sh1_0 : ByteArray) (lh1_1 : List (K.ty k74)) (lh1_2 : List (K.ty k76)) (sh1_3 : ByteArray) :
    t63_0 (fun x5 xh0_0 xh0_1 xh0_2 xh0_3 sh1_0 lh1_1 lh1_2 sh1_3 => loopP (awp tt E63 A63 L63_0 0) ([(2 : Nat), (3 : Nat), (5 : Nat)], [], [(4 : Nat)]) n (S63_0 x5 xh0_0 xh0_1 xh0_2 xh0_3 sh1_0 lh1_1 lh1_2 sh1_3) Q) (fun x4 => Q (Ex.ret) (X63_0_0 x4)) ( Q (Ex.exit (nat_lit 0)) (X63_0_1)) x5 xh0_0 xh0_1 xh0_2 xh0_3 sh1_0 lh1_1 lh1_2 sh1_3 = (loopP (awp tt E63 A63 L63_0 0) ([(2 : Nat), (3 : Nat), (5 : Nat)], [], [(4 : Nat)]) (n + 1) (S63_0 x5 xh0_0 xh0_1 xh0_2 xh0_3 sh1_0 lh1_1 lh1_2 sh1_3) Q) := by kernel_rfl
def G63_0 (R0 : Int → Prop) (R1 : Prop) : Nat → Int → Int → Int → Int → Int → ByteArray → List (K.ty k74) → List (K.ty k76) → ByteArray → Prop
  | 0, _, _, _, _, _, _, _, _, _ => False
  | n + 1, x5, xh0_0, xh0_1, xh0_2, xh0_3, sh1_0, lh1_1, lh1_2, sh1_3 => t63_0 (G63_0 R0 R1 n) R0 R1 x5 xh0_0 xh0_1 xh0_2 xh0_3 sh1_0 lh1_1 lh1_2 sh1_3
theorem T63_0 {R0 : Int → Prop} {R1 : Prop} (Q : Ex → St → Prop) (hr0 : ∀ x4, R0 x4 → Of (Q (Ex.ret) (X63_0_0 x4))) (hr1 :  R1 → Of (Q (Ex.exit (nat_lit 0)) (X63_0_1))) : ∀ (n : Nat) (x5 : Int) (xh0_0 : Int) (xh0_1 : Int) (xh0_2 : Int) (xh0_3 : Int) (sh1_0 : ByteArray) (lh1_1 : List (K.ty k74)) (lh1_2 : List (K.ty k76)) (sh1_3 : ByteArray), G63_0 R0 R1 n x5 xh0_0 xh0_1 xh0_2 xh0_3 sh1_0 lh1_1 lh1_2 sh1_3 → Of (loopP (awp tt E63 A63 L63_0 0) ([(2 : Nat), (3 : Nat), (5 : Nat)], [], [(4 : Nat)]) n (S63_0 x5 xh0_0 xh0_1 xh0_2 xh0_3 sh1_0 lh1_1 lh1_2 sh1_3) Q) := by
  intro n
  induction n with
  | zero => intro x5 xh0_0 xh0_1 xh0_2 xh0_3 sh1_0 lh1_1 lh1_2 sh1_3 h; exact h.elim
  | succ n ih =>
    intro x5 xh0_0 xh0_1 xh0_2 xh0_3 sh1_0 lh1_1 lh1_2 sh1_3 h
    exact kcO (t63_0_eq n Q x5 xh0_0 xh0_1 xh0_2 xh0_3 sh1_0 lh1_1 lh1_2 sh1_3) (t63_0_mono (fun _ _ _ _ _ _ _ _ _ h => (ih _ _ _ _ _ _ _ _ _ h).out) (fun _ h => (hr0 _ h).out) (fun h => (hr1 h).out) x5 xh0_0 xh0_1 xh0_2 xh0_3 sh1_0 lh1_1 lh1_2 sh1_3 h)
def t63 (Q : List V1 → List Ob → Prop) (lp0 : K.ty k59 → K.ty k45 → Prop) (p0 : K.ty k59) (p1 : K.ty k45) : Prop :=
  brP (decide ((↑(List.length p1.snd.fst) : Int) > (256 : Int))) (Q [V1.one (Lf.int IntKind.i64 (10 : Int))] []) (lp0 p0 p1)
theorem t63_mono {Q : List V1 → List Ob → Prop} {Q' : List V1 → List Ob → Prop} {lp0 : K.ty k59 → K.ty k45 → Prop} {lp0' : K.ty k59 → K.ty k45 → Prop} (hq : ∀ r h, Q r h → Q' r h) (hlp0 : ∀ p0 p1, lp0 p0 p1 → lp0' p0 p1) (p0 : K.ty k59) (p1 : K.ty k45) :
    t63 Q lp0 p0 p1 → t63 Q' lp0' p0 p1 :=
  brM (hq _ _) (hlp0 _ _)
theorem t63_eq (Q : List V1 → List Ob → Prop) (p0 : K.ty k59) (p1 : K.ty k45) :
    t63 Q (fun p0 p1 => ∃ m, loopP (awp tt E63 A63 L63_0 0) ([(2 : Nat), (3 : Nat), (5 : Nat)], [], [(4 : Nat)]) m (S63_0 ((0 : Int)) (p0.fst) (p0.snd.fst) (p0.snd.snd.fst) (p0.snd.snd.snd) (p1.fst) (p1.snd.fst) (p1.snd.snd.fst) (p1.snd.snd.snd)) (blkC (0 : Nat) (seqC (awp tt E63 A63 (Code.b (Code.b (Code.b (Func.code Try.f63)))) (0 : Nat)) (topC tt Try.f63 0 Q)))) p0 p1 = (afun tt E63 A63 Try.f63 (I63 p0 p1) [] Q) := by kernel_rfl
def t63c0x1 (Q : List V1 → List Ob → Prop) (p0 : K.ty k59) (p1 : K.ty k45) : Prop :=
  Q [V1.one (Lf.int IntKind.i64 (0 : Int))] []
theorem t63c0x1_mono {Q : List V1 → List Ob → Prop} {Q' : List V1 → List Ob → Prop} (hq : ∀ r h, Q r h → Q' r h) (p0 : K.ty k59) (p1 : K.ty k45) :
    t63c0x1 Q p0 p1 → t63c0x1 Q' p0 p1 :=
  hq _ _
theorem t63c0x1_eq (Q : List V1 → List Ob → Prop) (p0 : K.ty k59) (p1 : K.ty k45) :
    t63c0x1 Q p0 p1 = ((blkC (0 : Nat) (seqC (awp tt E63 A63 (Code.b (Code.b (Code.b (Func.code Try.f63)))) (0 : Nat)) (topC tt Try.f63 0 Q))) (Ex.exit (nat_lit 0)) (X63_0_1)) := by kernel_rfl
def t63c0x0 (Q : List V1 → List Ob → Prop) (p0 : K.ty k59) (p1 : K.ty k45) (x4e2 : Int) : Prop :=
  Q [V1.one (Lf.int IntKind.i64 x4e2)] []
theorem t63c0x0_mono {Q : List V1 → List Ob → Prop} {Q' : List V1 → List Ob → Prop} (hq : ∀ r h, Q r h → Q' r h) (p0 : K.ty k59) (p1 : K.ty k45) (x4e2 : Int) :
    t63c0x0 Q p0 p1 x4e2 → t63c0x0 Q' p0 p1 x4e2 :=
  hq _ _
theorem t63c0x0_eq (Q : List V1 → List Ob → Prop) (p0 : K.ty k59) (p1 : K.ty k45) (x4e2 : Int) :
    t63c0x0 Q p0 p1 x4e2 = ((blkC (0 : Nat) (seqC (awp tt E63 A63 (Code.b (Code.b (Code.b (Func.code Try.f63)))) (0 : Nat)) (topC tt Try.f63 0 Q))) (Ex.ret) (X63_0_0 x4e2)) := by kernel_rfl
def H63 (Q : List V1 → List Ob → Prop) (p0 : K.ty k59) (p1 : K.ty k45) : Prop := t63 Q (fun p0 p1 => ∃ m, G63_0 (fun x4e2 => t63c0x0 Q p0 p1 x4e2) ( t63c0x1 Q p0 p1) m ((0 : Int)) (p0.fst) (p0.snd.fst) (p0.snd.snd.fst) (p0.snd.snd.snd) (p1.fst) (p1.snd.fst) (p1.snd.snd.fst) (p1.snd.snd.snd)) p0 p1
theorem ok63 (Q : List V1 → List Ob → Prop) (p0 : K.ty k59) (p1 : K.ty k45) (h : H63 Q p0 p1) : Of (afun tt E63 A63 Try.f63 (I63 p0 p1) [] Q) :=
  kcO (t63_eq Q p0 p1) (t63_mono (fun _ _ h => h) (fun p0 p1 ⟨m, h⟩ => ⟨m, (T63_0 _ (fun x4e2 h => kcO (t63c0x0_eq _ _ _ _) (t63c0x0_mono (fun _ _ h => h) _ _ _ h)) (fun h => kcO (t63c0x1_eq _ _ _) (t63c0x1_mono (fun _ _ h => h) _ _ h)) m _ _ _ _ _ _ _ _ _ h).out⟩) p0 p1 h)
theorem env63 : EnvOk Try.prog E63 := .cons spec62 (by kernel_rfl) <| .cons spec73 (by kernel_rfl) <| .nil
-- f64 "busbar/busbarref11.coils" ['60', '46'] -> ['3']
def A64 : Ann := [(0, [2, 3, 5], [], [4])]
def E64 : Env := [(73, sp73)]
def I64 (p0 : (k59 : K).ty) (p1 : (k45 : K).ty) : List V1 := [nfK k59 p0, nfK k45 p1]
noncomputable def L64_0 : Code := Code.a (Code.a (Code.b (Code.a (Code.b (Code.b (Func.code Try.f64))))))
def S64_0 (x5 : Int) (xh0_0 : Int) (xh0_1 : Int) (xh0_2 : Int) (xh0_3 : Int) (sh1_0 : ByteArray) (lh1_1 : List (K.ty k74)) (lh1_2 : List (K.ty k76)) (sh1_3 : ByteArray) : St := sp (43 : Nat) [((2 : Nat), V.v (V1.one (Lf.ptr (nat_lit 0) (nat_lit 0)))), ((3 : Nat), V.v (V1.one (Lf.ptr (nat_lit 1) (nat_lit 0)))), ((5 : Nat), V.v (V1.one (Lf.int IntKind.i64 x5)))] [Ob.box (60 : Nat) [Lf.int IntKind.i64 xh0_0, Lf.int IntKind.i64 xh0_1, Lf.int IntKind.i64 xh0_2, Lf.int IntKind.i64 xh0_3], Ob.box (46 : Nat) [Lf.str sh1_0, Lf.sl (75 : TypeId) k74 lh1_1, Lf.sl (77 : TypeId) k76 lh1_2, Lf.str sh1_3]]
def X64_0_0 (x4 : Int) : St := sp (43 : Nat) [((4 : Nat), V.v (V1.one (Lf.int IntKind.i64 x4)))] []
def X64_0_1 : St := sp (43 : Nat) [] []
def t64_0 (again : Int → Int → Int → Int → Int → ByteArray → List (K.ty k74) → List (K.ty k76) → ByteArray → Prop) (R0 : Int → Prop) (R1 : Prop) (x5 : Int) (xh0_0 : Int) (xh0_1 : Int) (xh0_2 : Int) (xh0_3 : Int) (sh1_0 : ByteArray) (lh1_1 : List (K.ty k74)) (lh1_2 : List (K.ty k76)) (sh1_3 : ByteArray) : Prop :=
  brP (decide (x5 < (↑(List.length lh1_2) : Int))) (bound x5 (List.length lh1_2) ∧ brP (decide ((getE k76 lh1_2 x5).fst < (0 : Int))) (R0 (8 : Int)) (brP (decide ((getE k76 lh1_2 x5).fst > (3 : Int))) (R0 (8 : Int)) (brP (checkAddr (xh0_0, xh0_1, xh0_2, xh0_3) (getE k76 lh1_2 x5).snd != (0 : Int)) (R0 (checkAddr (xh0_0, xh0_1, xh0_2, xh0_3) (getE k76 lh1_2 x5).snd)) (brP ((getE k76 lh1_2 x5).snd.fst == (0 : Int)) (R0 (2 : Int)) (again (IntKind.wrap IntKind.i64 (x5 + (1 : Int))) xh0_0 xh0_1 xh0_2 xh0_3 sh1_0 lh1_1 lh1_2 sh1_3))))) R1
theorem t64_0_mono {again : Int → Int → Int → Int → Int → ByteArray → List (K.ty k74) → List (K.ty k76) → ByteArray → Prop} {R0 : Int → Prop} {R1 : Prop} {again' : Int → Int → Int → Int → Int → ByteArray → List (K.ty k74) → List (K.ty k76) → ByteArray → Prop} {R0' : Int → Prop} {R1' : Prop} (ha : ∀ x5 xh0_0 xh0_1 xh0_2 xh0_3 sh1_0 lh1_1 lh1_2 sh1_3, again x5 xh0_0 xh0_1 xh0_2 xh0_3 sh1_0 lh1_1 lh1_2 sh1_3 → again' x5 xh0_0 xh0_1 xh0_2 xh0_3 sh1_0 lh1_1 lh1_2 sh1_3) (hr0 : ∀ x4, R0 x4 → R0' x4) (hr1 :  R1 → R1') (x5 : Int) (xh0_0 : Int) (xh0_1 : Int) (xh0_2 : Int) (xh0_3 : Int) (sh1_0 : ByteArray) (lh1_1 : List (K.ty k74)) (lh1_2 : List (K.ty k76)) (sh1_3 : ByteArray) :
    t64_0 again R0 R1 x5 xh0_0 xh0_1 xh0_2 xh0_3 sh1_0 lh1_1 lh1_2 sh1_3 → t64_0 again' R0' R1' x5 xh0_0 xh0_1 xh0_2 xh0_3 sh1_0 lh1_1 lh1_2 sh1_3 :=
  brM (andM (id) (brM (hr0 _) (brM (hr0 _) (brM (hr0 _) (brM (hr0 _) (ha _ _ _ _ _ _ _ _ _)))))) (hr1)
theorem t64_0_eq (n : Nat) (Q : Ex → St → Prop) (x5 : Int) (xh0_0 : Int) (xh0_1 : Int) (xh0_2 : Int) (xh0_3 : Int) (sh1_0 : ByteArray) (lh1_1 : List (K.ty k74)) (lh1_2 : List (K.ty k76)) (sh1_3 : ByteArray) :
    t64_0 (fun x5 xh0_0 xh0_1 xh0_2 xh0_3 sh1_0 lh1_1 lh1_2 sh1_3 => loopP (awp tt E64 A64 L64_0 0) ([(2 : Nat), (3 : Nat), (5 : Nat)], [], [(4 : Nat)]) n (S64_0 x5 xh0_0 xh0_1 xh0_2 xh0_3 sh1_0 lh1_1 lh1_2 sh1_3) Q) (fun x4 => Q (Ex.ret) (X64_0_0 x4)) ( Q (Ex.exit (nat_lit 0)) (X64_0_1)) x5 xh0_0 xh0_1 xh0_2 xh0_3 sh1_0 lh1_1 lh1_2 sh1_3 = (loopP (awp tt E64 A64 L64_0 0) ([(2 : Nat), (3 : Nat), (5 : Nat)], [], [(4 : Nat)]) (n + 1) (S64_0 x5 xh0_0 xh0_1 xh0_2 xh0_3 sh1_0 lh1_1 lh1_2 sh1_3) Q) := by kernel_rfl
def G64_0 (R0 : Int → Prop) (R1 : Prop) : Nat → Int → Int → Int → Int → Int → ByteArray → List (K.ty k74) → List (K.ty k76) → ByteArray → Prop
  | 0, _, _, _, _, _, _, _, _, _ => False
  | n + 1, x5, xh0_0, xh0_1, xh0_2, xh0_3, sh1_0, lh1_1, lh1_2, sh1_3 => t64_0 (G64_0 R0 R1 n) R0 R1 x5 xh0_0 xh0_1 xh0_2 xh0_3 sh1_0 lh1_1 lh1_2 sh1_3
theorem T64_0 {R0 : Int → Prop} {R1 : Prop} (Q : Ex → St → Prop) (hr0 : ∀ x4, R0 x4 → Of (Q (Ex.ret) (X64_0_0 x4))) (hr1 :  R1 → Of (Q (Ex.exit (nat_lit 0)) (X64_0_1))) : ∀ (n : Nat) (x5 : Int) (xh0_0 : Int) (xh0_1 : Int) (xh0_2 : Int) (xh0_3 : Int) (sh1_0 : ByteArray) (lh1_1 : List (K.ty k74)) (lh1_2 : List (K.ty k76)) (sh1_3 : ByteArray), G64_0 R0 R1 n x5 xh0_0 xh0_1 xh0_2 xh0_3 sh1_0 lh1_1 lh1_2 sh1_3 → Of (loopP (awp tt E64 A64 L64_0 0) ([(2 : Nat), (3 : Nat), (5 : Nat)], [], [(4 : Nat)]) n (S64_0 x5 xh0_0 xh0_1 xh0_2 xh0_3 sh1_0 lh1_1 lh1_2 sh1_3) Q) := by
  intro n
  induction n with
  | zero => intro x5 xh0_0 xh0_1 xh0_2 xh0_3 sh1_0 lh1_1 lh1_2 sh1_3 h; exact h.elim
  | succ n ih =>
    intro x5 xh0_0 xh0_1 xh0_2 xh0_3 sh1_0 lh1_1 lh1_2 sh1_3 h
    exact kcO (t64_0_eq n Q x5 xh0_0 xh0_1 xh0_2 xh0_3 sh1_0 lh1_1 lh1_2 sh1_3) (t64_0_mono (fun _ _ _ _ _ _ _ _ _ h => (ih _ _ _ _ _ _ _ _ _ h).out) (fun _ h => (hr0 _ h).out) (fun h => (hr1 h).out) x5 xh0_0 xh0_1 xh0_2 xh0_3 sh1_0 lh1_1 lh1_2 sh1_3 h)
def t64 (Q : List V1 → List Ob → Prop) (lp0 : K.ty k59 → K.ty k45 → Prop) (p0 : K.ty k59) (p1 : K.ty k45) : Prop :=
  brP (decide ((↑(List.length p1.snd.snd.fst) : Int) > (16 : Int))) (Q [V1.one (Lf.int IntKind.i64 (10 : Int))] []) (lp0 p0 p1)
theorem t64_mono {Q : List V1 → List Ob → Prop} {Q' : List V1 → List Ob → Prop} {lp0 : K.ty k59 → K.ty k45 → Prop} {lp0' : K.ty k59 → K.ty k45 → Prop} (hq : ∀ r h, Q r h → Q' r h) (hlp0 : ∀ p0 p1, lp0 p0 p1 → lp0' p0 p1) (p0 : K.ty k59) (p1 : K.ty k45) :
    t64 Q lp0 p0 p1 → t64 Q' lp0' p0 p1 :=
  brM (hq _ _) (hlp0 _ _)
theorem t64_eq (Q : List V1 → List Ob → Prop) (p0 : K.ty k59) (p1 : K.ty k45) :
    t64 Q (fun p0 p1 => ∃ m, loopP (awp tt E64 A64 L64_0 0) ([(2 : Nat), (3 : Nat), (5 : Nat)], [], [(4 : Nat)]) m (S64_0 ((0 : Int)) (p0.fst) (p0.snd.fst) (p0.snd.snd.fst) (p0.snd.snd.snd) (p1.fst) (p1.snd.fst) (p1.snd.snd.fst) (p1.snd.snd.snd)) (blkC (0 : Nat) (seqC (awp tt E64 A64 (Code.b (Code.b (Code.b (Func.code Try.f64)))) (0 : Nat)) (topC tt Try.f64 0 Q)))) p0 p1 = (afun tt E64 A64 Try.f64 (I64 p0 p1) [] Q) := by kernel_rfl
def t64c0x1 (Q : List V1 → List Ob → Prop) (p0 : K.ty k59) (p1 : K.ty k45) : Prop :=
  Q [V1.one (Lf.int IntKind.i64 (0 : Int))] []
theorem t64c0x1_mono {Q : List V1 → List Ob → Prop} {Q' : List V1 → List Ob → Prop} (hq : ∀ r h, Q r h → Q' r h) (p0 : K.ty k59) (p1 : K.ty k45) :
    t64c0x1 Q p0 p1 → t64c0x1 Q' p0 p1 :=
  hq _ _
theorem t64c0x1_eq (Q : List V1 → List Ob → Prop) (p0 : K.ty k59) (p1 : K.ty k45) :
    t64c0x1 Q p0 p1 = ((blkC (0 : Nat) (seqC (awp tt E64 A64 (Code.b (Code.b (Code.b (Func.code Try.f64)))) (0 : Nat)) (topC tt Try.f64 0 Q))) (Ex.exit (nat_lit 0)) (X64_0_1)) := by kernel_rfl
def t64c0x0 (Q : List V1 → List Ob → Prop) (p0 : K.ty k59) (p1 : K.ty k45) (x4e2 : Int) : Prop :=
  Q [V1.one (Lf.int IntKind.i64 x4e2)] []
theorem t64c0x0_mono {Q : List V1 → List Ob → Prop} {Q' : List V1 → List Ob → Prop} (hq : ∀ r h, Q r h → Q' r h) (p0 : K.ty k59) (p1 : K.ty k45) (x4e2 : Int) :
    t64c0x0 Q p0 p1 x4e2 → t64c0x0 Q' p0 p1 x4e2 :=
  hq _ _
theorem t64c0x0_eq (Q : List V1 → List Ob → Prop) (p0 : K.ty k59) (p1 : K.ty k45) (x4e2 : Int) :
    t64c0x0 Q p0 p1 x4e2 = ((blkC (0 : Nat) (seqC (awp tt E64 A64 (Code.b (Code.b (Code.b (Func.code Try.f64)))) (0 : Nat)) (topC tt Try.f64 0 Q))) (Ex.ret) (X64_0_0 x4e2)) := by kernel_rfl
def H64 (Q : List V1 → List Ob → Prop) (p0 : K.ty k59) (p1 : K.ty k45) : Prop := t64 Q (fun p0 p1 => ∃ m, G64_0 (fun x4e2 => t64c0x0 Q p0 p1 x4e2) ( t64c0x1 Q p0 p1) m ((0 : Int)) (p0.fst) (p0.snd.fst) (p0.snd.snd.fst) (p0.snd.snd.snd) (p1.fst) (p1.snd.fst) (p1.snd.snd.fst) (p1.snd.snd.snd)) p0 p1
theorem ok64 (Q : List V1 → List Ob → Prop) (p0 : K.ty k59) (p1 : K.ty k45) (h : H64 Q p0 p1) : Of (afun tt E64 A64 Try.f64 (I64 p0 p1) [] Q) :=
  kcO (t64_eq Q p0 p1) (t64_mono (fun _ _ h => h) (fun p0 p1 ⟨m, h⟩ => ⟨m, (T64_0 _ (fun x4e2 h => kcO (t64c0x0_eq _ _ _ _) (t64c0x0_mono (fun _ _ h => h) _ _ _ h)) (fun h => kcO (t64c0x1_eq _ _ _) (t64c0x1_mono (fun _ _ h => h) _ _ h)) m _ _ _ _ _ _ _ _ _ h).out⟩) p0 p1 h)
theorem env64 : EnvOk Try.prog E64 := .cons spec73 (by kernel_rfl) <| .nil
theorem loop17 (rs : List Rung) (a b c : Int) (hl : rs.length ≤ 1000) (hc : ∀ r ∈ rs, (Rung.contacts r).length ≤ 1000000) (R0 : List Int → Prop) (h0 : R0 (basesFrom 0 rs)) : ∀ n (i : Nat), rs.length - i < n → i ≤ rs.length →
    G17_0 R0 n i a b c rs ((basesFrom 0 rs).take (i + 1)) := by
  intro n
  induction n with
  | zero => intro i h; omega
  | succ n ih =>
    intro i hn hi
    have hB := basesFrom_len rs 0
    refine brP_intro (fun d => ?_) (fun d => ?_)
    · have d : i < rs.length := by simpa using d
      have hlt : ((basesFrom 0 rs).take (i + 1)).length = i + 1 := by rw [List.length_take]; omega
      have hg : getE (.int .i64) ((basesFrom 0 rs).take (i + 1)) i = bAt (basesFrom 0 rs) i := by
        simp only [bAt, getE, Int.toNat_natCast, List.getD]
        rw [List.getElem?_take, if_pos (by omega)]
      have hb := bases_bound hl hc i (by omega)
      have he := edges_bound (hc _ (getE_mem45 d))
      have hs := basesFrom_step rs 0 i d
      have hw : IntKind.i64.wrap (bAt (basesFrom 0 rs) i + edges (getE k45 rs i)) = bAt (basesFrom 0 rs) (i + 1 : Nat) := by
        rw [hs]
        exact wrap_in (by omega) (by omega)
      have key : List.length (getE k45 rs i).snd.fst ≤ (4611686018427387904 : Nat) ∧ room tt (3 : TypeId) (List.length ((basesFrom 0 rs).take (i + 1)) + List.length (List.set (List.replicate (1 : Nat) (K.dflt (K.int IntKind.i64))) (0 : Nat) (IntKind.wrap IntKind.i64 (getE (K.int IntKind.i64) ((basesFrom 0 rs).take (i + 1)) i + (↑(List.countP isEdge (getE k45 rs i).snd.fst) : Int))))) ∧
          G17_0 R0 n (IntKind.wrap IntKind.i64 (i + (1 : Int))) a b c rs ((basesFrom 0 rs).take (i + 1) ++ List.set (List.replicate (1 : Nat) (K.dflt (K.int IntKind.i64))) (0 : Nat) (IntKind.wrap IntKind.i64 (getE (K.int IntKind.i64) ((basesFrom 0 rs).take (i + 1)) i + (↑(List.countP isEdge (getE k45 rs i).snd.fst) : Int)))) := by
        refine ⟨Nat.le_trans (hc _ (getE_mem45 d)) (by omega), ?_, ?_⟩
        · rw [hlt, List.length_set, List.length_replicate]; exact room3 (by omega)
        · have e1 : (List.set (List.replicate (1 : Nat) (K.dflt (K.int IntKind.i64))) (0 : Nat) (IntKind.wrap IntKind.i64 (getE (K.int IntKind.i64) ((basesFrom 0 rs).take (i + 1)) i + (↑(List.countP isEdge (getE k45 rs i).snd.fst) : Int)))) = [bAt (basesFrom 0 rs) (i + 1 : Nat)] := by
            show [_] = _
            rw [← hw, ← hg]
            rfl
          rw [e1, ← take_getE (by omega), wrap_in (by omega) (by omega)]
          exact ih (i + 1) (by omega) (by omega)
      have b2 : bound (i : Int) rs.length := ⟨by omega, by omega⟩
      exact ⟨⟨by omega, by rw [hlt]; omega⟩, ⟨b2, key⟩, b2, key, key, key⟩
    · have d : ¬ i < rs.length := by simpa using d
      rw [List.take_of_length_le (by omega)]
      exact h0
theorem spec17 : SpecOk Try.prog 17 sp17 := S1.okS tt_ok mixed [ksi] env17 Try.func17 fun (l : Lad) Q h => ok17 _ l <| by
  obtain ⟨⟨hl, hc⟩, h⟩ := h
  have := loop17 (Lad.rungs l) l.1 l.2.1 l.2.2.1 hl hc (fun w => SQ [ksi] Q [.one (.own 0)] [.row 3 (.int .i64) w]) h ((Lad.rungs l).length + 1) 0 (by omega) (by omega)
  have e : (basesFrom 0 (Lad.rungs l)).take (0 + 1) = [0] := by
    cases (Lad.rungs l) <;> rfl
  rw [e] at this
  exact ⟨_, this⟩
theorem idxP_any (p : Rung → Bool) : ∀ (l : List Rung) (i : Nat), decide (0 ≤ idxP p l i) = l.any p
  | [], i => by simp [idxP]
  | r :: l, i => by
    by_cases hp : p r = true
    · simp [idxP, hp]
    · have hp : p r = false := by simpa using hp
      have ih := idxP_any p l (i + 1)
      simp only [idxP, List.any_cons, hp, cond_false, Bool.false_or]
      exact ih
theorem loop47 (s : ByteArray) (rs : List Rung) (a b c : Int) (R0 : Bool → Prop) (R1 : Prop) (hl : rs.length ≤ 1000000) : ∀ n (i : Nat), rs.length - i < n →
    ((rs.drop i).any (fun r => decide (Rung.label r = s)) = true → R0 true) → ((rs.drop i).any (fun r => decide (Rung.label r = s)) = false → R1) → G47_0 R0 R1 n s i a b c rs := by
  intro n
  induction n with
  | zero => intro i h; omega
  | succ n ih =>
    intro i hn h0 h1
    refine brP_intro (fun d => ?_) (fun d => ?_)
    · have d : i < rs.length := by simpa using d
      rw [getE_cons k45 rs i d, List.any_cons] at h0 h1
      refine ⟨⟨by omega, by omega⟩, ?_⟩
      rw [strEq]
      refine brP_intro (fun e => h0 ?_) (fun e => ?_)
      · have e : decide (Rung.label (getE k45 rs i) = s) = true := e
        rw [e]; rfl
      · have e : decide (Rung.label (getE k45 rs i) = s) = false := e
        rw [e, Bool.false_or] at h0 h1
        rw [wrap_in (by omega) (by omega)]
        exact ih (i + 1) (by omega) h0 h1
    · have d : ¬ i < rs.length := by simpa using d
      rw [List.drop_of_length_le (by omega)] at h1
      exact h1 rfl
theorem spec47 : SpecOk Try.prog 47 sp47 := S3.ok tt_ok mixed env47 Try.func47 fun (l : Lad) (i : Int) (s : ByteArray) Q h => ok47 Q l i s <| by
  obtain ⟨⟨hb, hl⟩, h⟩ := h
  have hb1 := hb.1
  have hb2 := hb.2
  rw [idxP_any] at h
  have hw : IntKind.i64.wrap (i + 1) = (((i + 1).toNat : Nat) : Int) := by rw [wrap_in (by omega) (by omega)]; omega
  show ∃ m, G47_0 (fun b6e3 => t47c0x0 Q l i s b6e3) (t47c0x1 Q l i s) m s (IntKind.i64.wrap (i + 1)) l.1 l.2.1 l.2.2.1 (Lad.rungs l)
  rw [hw]
  refine ⟨(Lad.rungs l).length + 1, loop47 s (Lad.rungs l) _ _ _ _ _ hl _ (i + 1).toNat (by omega) (fun e => ?_) (fun e => ?_)⟩
  · rw [e] at h; exact h
  · rw [e] at h; exact h
theorem kind_part {s : k59.ty} {k : Int} {a : k72.ty} : (k < 0 → partE s k a = 8) ∧ (k > 3 → partE s k a = 8) ∧ (¬ k < 0 → ¬ k > 3 → partE s k a = checkAddr s a) := by
  unfold partE
  refine ⟨fun h => by rw [decide_eq_true h]; rfl, fun h => ?_, fun h h2 => ?_⟩
  · rw [decide_eq_false (show ¬ k < 0 by omega), decide_eq_true (show k ≥ 4 by omega)]; rfl
  · rw [decide_eq_false h, decide_eq_false (show ¬ k ≥ 4 by omega)]; rfl
theorem loop63 (l : List Con) (s : k59.ty) (x1 : ByteArray) (x3 : List Coi) (x4 : ByteArray) (R0 : Int → Prop) (R1 : Prop) (hl : l.length ≤ 1000000) :
    ∀ n (i : Nat), l.length - i < n → (consE s (l.drop i) ≠ 0 → R0 (consE s (l.drop i))) → (consE s (l.drop i) = 0 → R1) → G63_0 R0 R1 n i s.1 s.2.1 s.2.2.1 s.2.2.2 x1 l x3 x4 := by
  intro n
  induction n with
  | zero => intro i h; omega
  | succ n ih =>
    intro i hn h0 h1
    refine brP_intro (fun c => ?_) (fun c => ?_)
    · have c : i < l.length := by simpa using c
      rw [getE_cons k74 l i c] at h0 h1
      simp only [consE] at h0 h1
      obtain ⟨k1, k2, k3⟩ := @kind_part s (getE k74 l i).1 (getE k74 l i).2.1
      refine ⟨⟨by omega, by omega⟩, brP_intro (fun d => ?_) (fun d => brP_intro (fun e => ?_) (fun e => ?_))⟩
      · have d := of_decide_eq_true d
        rw [k1 d] at h0
        exact h0 (by simp)
      · have e := of_decide_eq_true e
        rw [k2 e] at h0
        exact h0 (by simp)
      have hp := k3 (of_decide_eq_false d) (of_decide_eq_false e)
      rw [hp] at h0 h1
      refine brP_intro (fun d => ?_) (fun d => ?_)
      · have d : (checkAddr s (getE k74 l i).2.1 != 0) = true := d
        simp only [d, cond_true] at h0
        exact h0 (by simpa using d)
      have d : (checkAddr s (getE k74 l i).2.1 != 0) = false := d
      simp only [d, cond_false] at h0 h1
      refine brP_intro (fun e => ?_) (fun e => ?_)
      · simp only [e, cond_true] at h0; exact h0 (by decide)
      simp only [e, cond_false] at h0 h1
      refine brP_intro (fun f => ?_) (fun f => ?_)
      · simp only [f, cond_true] at h0; exact h0 (by decide)
      simp only [f, cond_false] at h0 h1
      rw [wrap_in (by omega) (by omega)]
      exact ih (i + 1) (by omega) h0 h1
    · have c : ¬ i < l.length := by simpa using c
      rw [List.drop_of_length_le (by omega)] at h1
      exact h1 rfl
theorem spec63 : SpecOk Try.prog 63 sp63 := S2.ok tt_ok mixed env63 Try.func63 fun s (r : Rung) Q h => ok63 Q s r <| by
  have h : Q [.one (.int .i64 (bif decide (r.contacts.length > 256) then 10 else consE s r.contacts))] [] := h
  refine brP_intro (fun c => ?_) (fun c => ?_)
  · have c : decide (r.contacts.length > 256) = true := by have := of_decide_eq_true c; have h2 : (r.contacts.length : Int) > 256 := this; exact decide_eq_true (by omega)
    rw [c] at h; exact h
  · have c2 : ¬ (r.contacts.length : Int) > 256 := of_decide_eq_false c
    have c : decide (r.contacts.length > 256) = false := decide_eq_false (by omega)
    rw [c] at h
    simp only [cond_false] at h
    refine ⟨r.contacts.length + 1, loop63 r.contacts s _ _ _ _ _ (by omega) _ 0 (by omega) (fun e => ?_) (fun e => ?_)⟩
    · rw [List.drop_zero] at e ⊢; exact h
    · rw [List.drop_zero] at e; rw [e] at h; exact h
theorem loop64 (l : List Coi) (s : k59.ty) (x1 : ByteArray) (x2 : List Con) (x4 : ByteArray) (R0 : Int → Prop) (R1 : Prop) (hl : l.length ≤ 1000000) :
    ∀ n (i : Nat), l.length - i < n → (coisE s (l.drop i) ≠ 0 → R0 (coisE s (l.drop i))) → (coisE s (l.drop i) = 0 → R1) → G64_0 R0 R1 n i s.1 s.2.1 s.2.2.1 s.2.2.2 x1 x2 l x4 := by
  intro n
  induction n with
  | zero => intro i h; omega
  | succ n ih =>
    intro i hn h0 h1
    refine brP_intro (fun c => ?_) (fun c => ?_)
    · have c : i < l.length := by simpa using c
      rw [getE_cons k76 l i c] at h0 h1
      simp only [coisE] at h0 h1
      obtain ⟨k1, k2, k3⟩ := @kind_part s (getE k76 l i).1 (getE k76 l i).2
      refine ⟨⟨by omega, by omega⟩, brP_intro (fun d => ?_) (fun d => brP_intro (fun e => ?_) (fun e => ?_))⟩
      · have d := of_decide_eq_true d
        rw [k1 d] at h0
        exact h0 (by simp)
      · have e := of_decide_eq_true e
        rw [k2 e] at h0
        exact h0 (by simp)
      have hp := k3 (of_decide_eq_false d) (of_decide_eq_false e)
      rw [hp] at h0 h1
      refine brP_intro (fun d => ?_) (fun d => ?_)
      · have d : (checkAddr s (getE k76 l i).2 != 0) = true := d
        simp only [d, cond_true] at h0
        exact h0 (by simpa using d)
      have d : (checkAddr s (getE k76 l i).2 != 0) = false := d
      simp only [d, cond_false] at h0 h1
      refine brP_intro (fun e => ?_) (fun e => ?_)
      · simp only [e, cond_true] at h0; exact h0 (by decide)
      simp only [e, cond_false] at h0 h1
      rw [wrap_in (by omega) (by omega)]
      exact ih (i + 1) (by omega) h0 h1
    · have c : ¬ i < l.length := by simpa using c
      rw [List.drop_of_length_le (by omega)] at h1
      exact h1 rfl
theorem spec64 : SpecOk Try.prog 64 sp64 := S2.ok tt_ok mixed env64 Try.func64 fun s (r : Rung) Q h => ok64 Q s r <| by
  have h : Q [.one (.int .i64 (bif decide (r.coils.length > 16) then 10 else coisE s r.coils))] [] := h
  refine brP_intro (fun c => ?_) (fun c => ?_)
  · have c : decide (r.coils.length > 16) = true := by have := of_decide_eq_true c; have h2 : (r.coils.length : Int) > 16 := this; exact decide_eq_true (by omega)
    rw [c] at h; exact h
  · have c2 : ¬ (r.coils.length : Int) > 16 := of_decide_eq_false c
    have c : decide (r.coils.length > 16) = false := decide_eq_false (by omega)
    rw [c] at h
    simp only [cond_false] at h
    refine ⟨r.coils.length + 1, loop64 r.coils s _ _ _ _ _ (by omega) _ 0 (by omega) (fun e => ?_) (fun e => ?_)⟩
    · rw [List.drop_zero] at e ⊢; exact h
    · rw [List.drop_zero] at e; rw [e] at h; exact h
-- f46 "busbar/busbarref11.rung" ['24', '3'] -> ['3']
def A46 : Ann := [(0, [1, 2, 5, 6, 7], [5, 6], [4])]
def E46 : Env := [(62, sp62), (63, sp63), (64, sp64)]
def I46 (p0 : (k23 : K).ty) (p1 : ((.int .i64) : K).ty) : List V1 := [nfK k23 p0, nfK (.int .i64) p1]
noncomputable def L46_0 : Code := Code.a (Code.a (Code.b (Code.b (Code.a (Code.b (Code.a (Code.b (Code.b (Code.b (Func.code Try.f46))))))))))
def S46_0 (x1 : Int) (x7 : Int) (xh0_0 : Int) (xh0_1 : Int) (xh0_2 : Int) (lh0_3 : List (K.ty k45)) (xh1_0 : Int) (xh1_1 : Int) (xh1_2 : Int) (xh1_3 : Int) (sh2_0 : ByteArray) (lh2_1 : List (K.ty k74)) (lh2_2 : List (K.ty k76)) (sh2_3 : ByteArray) : St := sp (64 : Nat) [((1 : Nat), V.v (V1.one (Lf.int IntKind.i64 x1))), ((2 : Nat), V.v (V1.one (Lf.ptr (nat_lit 0) (nat_lit 0)))), ((5 : Nat), V.v (V1.one (Lf.ptr (nat_lit 1) (nat_lit 0)))), ((6 : Nat), V.v (V1.one (Lf.ptr (nat_lit 2) (nat_lit 0)))), ((7 : Nat), V.v (V1.one (Lf.int IntKind.i64 x7)))] [Ob.box (24 : Nat) [Lf.int IntKind.i64 xh0_0, Lf.int IntKind.i64 xh0_1, Lf.int IntKind.i64 xh0_2, Lf.sl (46 : TypeId) k45 lh0_3], Ob.box (60 : Nat) [Lf.int IntKind.i64 xh1_0, Lf.int IntKind.i64 xh1_1, Lf.int IntKind.i64 xh1_2, Lf.int IntKind.i64 xh1_3], Ob.box (46 : Nat) [Lf.str sh2_0, Lf.sl (75 : TypeId) k74 lh2_1, Lf.sl (77 : TypeId) k76 lh2_2, Lf.str sh2_3]]
def X46_0_0 (x4 : Int) : St := sp (64 : Nat) [((4 : Nat), V.v (V1.one (Lf.int IntKind.i64 x4)))] []
def X46_0_1 (xh0_0 : Int) (xh0_1 : Int) (xh0_2 : Int) (xh0_3 : Int) (sh1_0 : ByteArray) (lh1_1 : List (K.ty k74)) (lh1_2 : List (K.ty k76)) (sh1_3 : ByteArray) : St := sp (64 : Nat) [((5 : Nat), V.v (V1.one (Lf.ptr (nat_lit 0) (nat_lit 0)))), ((6 : Nat), V.v (V1.one (Lf.ptr (nat_lit 1) (nat_lit 0))))] [Ob.box (60 : Nat) [Lf.int IntKind.i64 xh0_0, Lf.int IntKind.i64 xh0_1, Lf.int IntKind.i64 xh0_2, Lf.int IntKind.i64 xh0_3], Ob.box (46 : Nat) [Lf.str sh1_0, Lf.sl (75 : TypeId) k74 lh1_1, Lf.sl (77 : TypeId) k76 lh1_2, Lf.str sh1_3]]
def t46_0 (again : Int → Int → Int → Int → Int → List (K.ty k45) → Int → Int → Int → Int → ByteArray → List (K.ty k74) → List (K.ty k76) → ByteArray → Prop) (R0 : Int → Prop) (R1 : Int → Int → Int → Int → ByteArray → List (K.ty k74) → List (K.ty k76) → ByteArray → Prop) (x1 : Int) (x7 : Int) (xh0_0 : Int) (xh0_1 : Int) (xh0_2 : Int) (lh0_3 : List (K.ty k45)) (xh1_0 : Int) (xh1_1 : Int) (xh1_2 : Int) (xh1_3 : Int) (sh2_0 : ByteArray) (lh2_1 : List (K.ty k74)) (lh2_2 : List (K.ty k76)) (sh2_3 : ByteArray) : Prop :=
  brP (decide (x7 < x1)) (bound x7 (List.length lh0_3) ∧ brP (ByteArray.toList (getE k45 lh0_3 x7).fst == ByteArray.toList sh2_0) (R0 (9 : Int)) (again x1 (IntKind.wrap IntKind.i64 (x7 + (1 : Int))) xh0_0 xh0_1 xh0_2 lh0_3 xh1_0 xh1_1 xh1_2 xh1_3 sh2_0 lh2_1 lh2_2 sh2_3)) (R1 xh1_0 xh1_1 xh1_2 xh1_3 sh2_0 lh2_1 lh2_2 sh2_3)
theorem t46_0_mono {again : Int → Int → Int → Int → Int → List (K.ty k45) → Int → Int → Int → Int → ByteArray → List (K.ty k74) → List (K.ty k76) → ByteArray → Prop} {R0 : Int → Prop} {R1 : Int → Int → Int → Int → ByteArray → List (K.ty k74) → List (K.ty k76) → ByteArray → Prop} {again' : Int → Int → Int → Int → Int → List (K.ty k45) → Int → Int → Int → Int → ByteArray → List (K.ty k74) → List (K.ty k76) → ByteArray → Prop} {R0' : Int → Prop} {R1' : Int → Int → Int → Int → ByteArray → List (K.ty k74) → List (K.ty k76) → ByteArray → Prop} (ha : ∀ x1 x7 xh0_0 xh0_1 xh0_2 lh0_3 xh1_0 xh1_1 xh1_2 xh1_3 sh2_0 lh2_1 lh2_2 sh2_3, again x1 x7 xh0_0 xh0_1 xh0_2 lh0_3 xh1_0 xh1_1 xh1_2 xh1_3 sh2_0 lh2_1 lh2_2 sh2_3 → again' x1 x7 xh0_0 xh0_1 xh0_2 lh0_3 xh1_0 xh1_1 xh1_2 xh1_3 sh2_0 lh2_1 lh2_2 sh2_3) (hr0 : ∀ x4, R0 x4 → R0' x4) (hr1 : ∀ xh0_0 xh0_1 xh0_2 xh0_3 sh1_0 lh1_1 lh1_2 sh1_3, R1 xh0_0 xh0_1 xh0_2 xh0_3 sh1_0 lh1_1 lh1_2 sh1_3 → R1' xh0_0 xh0_1 xh0_2 xh0_3 sh1_0 lh1_1 lh1_2 sh1_3) (x1 : Int) (x7 : Int) (xh0_0 : Int) (xh0_1 : Int) (xh0_2 : Int) (lh0_3 : List (K.ty k45)) (xh1_0 : Int) (xh1_1 : Int) (xh1_2 : Int) (xh1_3 : Int) (sh2_0 : ByteArray) (lh2_1 : List (K.ty k74)) (lh2_2 : List (K.ty k76)) (sh2_3 : ByteArray) :
    t46_0 again R0 R1 x1 x7 xh0_0 xh0_1 xh0_2 lh0_3 xh1_0 xh1_1 xh1_2 xh1_3 sh2_0 lh2_1 lh2_2 sh2_3 → t46_0 again' R0' R1' x1 x7 xh0_0 xh0_1 xh0_2 lh0_3 xh1_0 xh1_1 xh1_2 xh1_3 sh2_0 lh2_1 lh2_2 sh2_3 :=
  brM (andM (id) (brM (hr0 _) (ha _ _ _ _ _ _ _ _ _ _ _ _ _ _))) (hr1 _ _ _ _ _ _ _ _)
theorem t46_0_eq (n : Nat) (Q : Ex → St → Prop) (x1 : Int) (x7 : Int) (xh0_0 : Int) (xh0_1 : Int) (xh0_2 : Int) (lh0_3 : List (K.ty k45)) (xh1_0 : Int) (xh1_1 : Int) (xh1_2 : Int) (xh1_3 : Int) (sh2_0 : ByteArray) (lh2_1 : List (K.ty k74)) (lh2_2 : List (K.ty k76)) (sh2_3 : ByteArray) :
    t46_0 (fun x1 x7 xh0_0 xh0_1 xh0_2 lh0_3 xh1_0 xh1_1 xh1_2 xh1_3 sh2_0 lh2_1 lh2_2 sh2_3 => loopP (awp tt E46 A46 L46_0 0) ([(1 : Nat), (2 : Nat), (5 : Nat), (6 : Nat), (7 : Nat)], [(5 : Nat), (6 : Nat)], [(4 : Nat)]) n (S46_0 x1 x7 xh0_0 xh0_1 xh0_2 lh0_3 xh1_0 xh1_1 xh1_2 xh1_3 sh2_0 lh2_1 lh2_2 sh2_3) Q) (fun x4 => Q (Ex.ret) (X46_0_0 x4)) (fun xh0_0 xh0_1 xh0_2 xh0_3 sh1_0 lh1_1 lh1_2 sh1_3 => Q (Ex.exit (nat_lit 0)) (X46_0_1 xh0_0 xh0_1 xh0_2 xh0_3 sh1_0 lh1_1 lh1_2 sh1_3)) x1 x7 xh0_0 xh0_1 xh0_2 lh0_3 xh1_0 xh1_1 xh1_2 xh1_3 sh2_0 lh2_1 lh2_2 sh2_3 = (loopP (awp tt E46 A46 L46_0 0) ([(1 : Nat), (2 : Nat), (5 : Nat), (6 : Nat), (7 : Nat)], [(5 : Nat), (6 : Nat)], [(4 : Nat)]) (n + 1) (S46_0 x1 x7 xh0_0 xh0_1 xh0_2 lh0_3 xh1_0 xh1_1 xh1_2 xh1_3 sh2_0 lh2_1 lh2_2 sh2_3) Q) := by kernel_rfl
def G46_0 (R0 : Int → Prop) (R1 : Int → Int → Int → Int → ByteArray → List (K.ty k74) → List (K.ty k76) → ByteArray → Prop) : Nat → Int → Int → Int → Int → Int → List (K.ty k45) → Int → Int → Int → Int → ByteArray → List (K.ty k74) → List (K.ty k76) → ByteArray → Prop
  | 0, _, _, _, _, _, _, _, _, _, _, _, _, _, _ => False
  | n + 1, x1, x7, xh0_0, xh0_1, xh0_2, lh0_3, xh1_0, xh1_1, xh1_2, xh1_3, sh2_0, lh2_1, lh2_2, sh2_3 => t46_0 (G46_0 R0 R1 n) R0 R1 x1 x7 xh0_0 xh0_1 xh0_2 lh0_3 xh1_0 xh1_1 xh1_2 xh1_3 sh2_0 lh2_1 lh2_2 sh2_3
theorem T46_0 {R0 : Int → Prop} {R1 : Int → Int → Int → Int → ByteArray → List (K.ty k74) → List (K.ty k76) → ByteArray → Prop} (Q : Ex → St → Prop) (hr0 : ∀ x4, R0 x4 → Of (Q (Ex.ret) (X46_0_0 x4))) (hr1 : ∀ xh0_0 xh0_1 xh0_2 xh0_3 sh1_0 lh1_1 lh1_2 sh1_3, R1 xh0_0 xh0_1 xh0_2 xh0_3 sh1_0 lh1_1 lh1_2 sh1_3 → Of (Q (Ex.exit (nat_lit 0)) (X46_0_1 xh0_0 xh0_1 xh0_2 xh0_3 sh1_0 lh1_1 lh1_2 sh1_3))) : ∀ (n : Nat) (x1 : Int) (x7 : Int) (xh0_0 : Int) (xh0_1 : Int) (xh0_2 : Int) (lh0_3 : List (K.ty k45)) (xh1_0 : Int) (xh1_1 : Int) (xh1_2 : Int) (xh1_3 : Int) (sh2_0 : ByteArray) (lh2_1 : List (K.ty k74)) (lh2_2 : List (K.ty k76)) (sh2_3 : ByteArray), G46_0 R0 R1 n x1 x7 xh0_0 xh0_1 xh0_2 lh0_3 xh1_0 xh1_1 xh1_2 xh1_3 sh2_0 lh2_1 lh2_2 sh2_3 → Of (loopP (awp tt E46 A46 L46_0 0) ([(1 : Nat), (2 : Nat), (5 : Nat), (6 : Nat), (7 : Nat)], [(5 : Nat), (6 : Nat)], [(4 : Nat)]) n (S46_0 x1 x7 xh0_0 xh0_1 xh0_2 lh0_3 xh1_0 xh1_1 xh1_2 xh1_3 sh2_0 lh2_1 lh2_2 sh2_3) Q) := by
  intro n
  induction n with
  | zero => intro x1 x7 xh0_0 xh0_1 xh0_2 lh0_3 xh1_0 xh1_1 xh1_2 xh1_3 sh2_0 lh2_1 lh2_2 sh2_3 h; exact h.elim
  | succ n ih =>
    intro x1 x7 xh0_0 xh0_1 xh0_2 lh0_3 xh1_0 xh1_1 xh1_2 xh1_3 sh2_0 lh2_1 lh2_2 sh2_3 h
    exact kcO (t46_0_eq n Q x1 x7 xh0_0 xh0_1 xh0_2 lh0_3 xh1_0 xh1_1 xh1_2 xh1_3 sh2_0 lh2_1 lh2_2 sh2_3) (t46_0_mono (fun _ _ _ _ _ _ _ _ _ _ _ _ _ _ h => (ih _ _ _ _ _ _ _ _ _ _ _ _ _ _ h).out) (fun _ h => (hr0 _ h).out) (fun _ _ _ _ _ _ _ _ h => (hr1 _ _ _ _ _ _ _ _ h).out) x1 x7 xh0_0 xh0_1 xh0_2 lh0_3 xh1_0 xh1_1 xh1_2 xh1_3 sh2_0 lh2_1 lh2_2 sh2_3 h)
def t46 (Q : List V1 → List Ob → Prop) (lp0 : K.ty k23 → K.ty (K.int IntKind.i64) → Prop) (p0 : K.ty k23) (p1 : K.ty (K.int IntKind.i64)) : Prop :=
  bound p1 (List.length p0.snd.snd.snd) ∧ brP (ByteArray.toList (getE k45 p0.snd.snd.snd p1).fst != ByteArray.toList (ByteArray.mk #[])) (brP (!isName (getE k45 p0.snd.snd.snd p1).fst) (Q [V1.one (Lf.int IntKind.i64 (6 : Int))] []) (lp0 p0 p1)) (brP ((bif decide (List.length (Rung.contacts (getE k45 p0.snd.snd.snd p1)) > (256 : Nat)) then (10 : Int) else consE (p0.fst, p0.snd.fst, p0.snd.snd.fst, (0 : Int)) (Rung.contacts (getE k45 p0.snd.snd.snd p1))) == (0 : Int)) (brP ((bif decide (List.length (Rung.coils (getE k45 p0.snd.snd.snd p1)) > (16 : Nat)) then (10 : Int) else coisE (p0.fst, p0.snd.fst, p0.snd.snd.fst, (0 : Int)) (Rung.coils (getE k45 p0.snd.snd.snd p1))) == (0 : Int)) (brP (ByteArray.toList (getE k45 p0.snd.snd.snd p1).snd.snd.snd != ByteArray.toList (ByteArray.mk #[])) (brP (!isName (getE k45 p0.snd.snd.snd p1).snd.snd.snd) (Q [V1.one (Lf.int IntKind.i64 (6 : Int))] []) (Q [V1.one (Lf.int IntKind.i64 (bif decide (List.length (Rung.coils (getE k45 p0.snd.snd.snd p1)) > (16 : Nat)) then (10 : Int) else coisE (p0.fst, p0.snd.fst, p0.snd.snd.fst, (0 : Int)) (Rung.coils (getE k45 p0.snd.snd.snd p1))))] [])) (Q [V1.one (Lf.int IntKind.i64 (bif decide (List.length (Rung.coils (getE k45 p0.snd.snd.snd p1)) > (16 : Nat)) then (10 : Int) else coisE (p0.fst, p0.snd.fst, p0.snd.snd.fst, (0 : Int)) (Rung.coils (getE k45 p0.snd.snd.snd p1))))] [])) (Q [V1.one (Lf.int IntKind.i64 (bif decide (List.length (Rung.coils (getE k45 p0.snd.snd.snd p1)) > (16 : Nat)) then (10 : Int) else coisE (p0.fst, p0.snd.fst, p0.snd.snd.fst, (0 : Int)) (Rung.coils (getE k45 p0.snd.snd.snd p1))))] [])) (brP ((bif decide (List.length (Rung.contacts (getE k45 p0.snd.snd.snd p1)) > (256 : Nat)) then (10 : Int) else consE (p0.fst, p0.snd.fst, p0.snd.snd.fst, (0 : Int)) (Rung.contacts (getE k45 p0.snd.snd.snd p1))) == (0 : Int)) (brP (ByteArray.toList (getE k45 p0.snd.snd.snd p1).snd.snd.snd != ByteArray.toList (ByteArray.mk #[])) (brP (!isName (getE k45 p0.snd.snd.snd p1).snd.snd.snd) (Q [V1.one (Lf.int IntKind.i64 (6 : Int))] []) (Q [V1.one (Lf.int IntKind.i64 (bif decide (List.length (Rung.contacts (getE k45 p0.snd.snd.snd p1)) > (256 : Nat)) then (10 : Int) else consE (p0.fst, p0.snd.fst, p0.snd.snd.fst, (0 : Int)) (Rung.contacts (getE k45 p0.snd.snd.snd p1))))] [])) (Q [V1.one (Lf.int IntKind.i64 (bif decide (List.length (Rung.contacts (getE k45 p0.snd.snd.snd p1)) > (256 : Nat)) then (10 : Int) else consE (p0.fst, p0.snd.fst, p0.snd.snd.fst, (0 : Int)) (Rung.contacts (getE k45 p0.snd.snd.snd p1))))] [])) (Q [V1.one (Lf.int IntKind.i64 (bif decide (List.length (Rung.contacts (getE k45 p0.snd.snd.snd p1)) > (256 : Nat)) then (10 : Int) else consE (p0.fst, p0.snd.fst, p0.snd.snd.fst, (0 : Int)) (Rung.contacts (getE k45 p0.snd.snd.snd p1))))] [])))
theorem t46_mono {Q : List V1 → List Ob → Prop} {Q' : List V1 → List Ob → Prop} {lp0 : K.ty k23 → K.ty (K.int IntKind.i64) → Prop} {lp0' : K.ty k23 → K.ty (K.int IntKind.i64) → Prop} (hq : ∀ r h, Q r h → Q' r h) (hlp0 : ∀ p0 p1, lp0 p0 p1 → lp0' p0 p1) (p0 : K.ty k23) (p1 : K.ty (K.int IntKind.i64)) :
    t46 Q lp0 p0 p1 → t46 Q' lp0' p0 p1 :=
  andM (id) (brM (brM (hq _ _) (hlp0 _ _)) (brM (brM (brM (brM (hq _ _) (hq _ _)) (hq _ _)) (hq _ _)) (brM (brM (brM (hq _ _) (hq _ _)) (hq _ _)) (hq _ _))))
theorem t46_eq (Q : List V1 → List Ob → Prop) (p0 : K.ty k23) (p1 : K.ty (K.int IntKind.i64)) :
    t46 Q (fun p0 p1 => ∃ m, loopP (awp tt E46 A46 L46_0 0) ([(1 : Nat), (2 : Nat), (5 : Nat), (6 : Nat), (7 : Nat)], [(5 : Nat), (6 : Nat)], [(4 : Nat)]) m (S46_0 (p1) ((0 : Int)) (p0.fst) (p0.snd.fst) (p0.snd.snd.fst) (p0.snd.snd.snd) (p0.fst) (p0.snd.fst) (p0.snd.snd.fst) ((0 : Int)) ((getE k45 p0.snd.snd.snd p1).fst) ((getE k45 p0.snd.snd.snd p1).snd.fst) ((getE k45 p0.snd.snd.snd p1).snd.snd.fst) ((getE k45 p0.snd.snd.snd p1).snd.snd.snd)) (blkC (0 : Nat) (seqC (awp tt E46 A46 (Code.b (Code.b (Code.b (Code.b (Func.code Try.f46))))) (0 : Nat)) (topC tt Try.f46 0 Q)))) p0 p1 = (afun tt E46 A46 Try.f46 (I46 p0 p1) [] Q) := by kernel_rfl
def t46c0x1 (Q : List V1 → List Ob → Prop) (p0 : K.ty k23) (p1 : K.ty (K.int IntKind.i64)) (xh0_0e2 : Int) (xh0_1e2 : Int) (xh0_2e2 : Int) (xh0_3e2 : Int) (sh1_0e2 : ByteArray) (lh1_1e2 : List (K.ty k74)) (lh1_2e2 : List (K.ty k76)) (sh1_3e2 : ByteArray) : Prop :=
  brP ((bif decide (List.length (Rung.contacts (sh1_0e2, lh1_1e2, lh1_2e2, sh1_3e2)) > (256 : Nat)) then (10 : Int) else consE (xh0_0e2, xh0_1e2, xh0_2e2, xh0_3e2) (Rung.contacts (sh1_0e2, lh1_1e2, lh1_2e2, sh1_3e2))) == (0 : Int)) (brP ((bif decide (List.length (Rung.coils (sh1_0e2, lh1_1e2, lh1_2e2, sh1_3e2)) > (16 : Nat)) then (10 : Int) else coisE (xh0_0e2, xh0_1e2, xh0_2e2, xh0_3e2) (Rung.coils (sh1_0e2, lh1_1e2, lh1_2e2, sh1_3e2))) == (0 : Int)) (brP (ByteArray.toList sh1_3e2 != ByteArray.toList (ByteArray.mk #[])) (brP (!isName sh1_3e2) (Q [V1.one (Lf.int IntKind.i64 (6 : Int))] []) (Q [V1.one (Lf.int IntKind.i64 (bif decide (List.length (Rung.coils (sh1_0e2, lh1_1e2, lh1_2e2, sh1_3e2)) > (16 : Nat)) then (10 : Int) else coisE (xh0_0e2, xh0_1e2, xh0_2e2, xh0_3e2) (Rung.coils (sh1_0e2, lh1_1e2, lh1_2e2, sh1_3e2))))] [])) (Q [V1.one (Lf.int IntKind.i64 (bif decide (List.length (Rung.coils (sh1_0e2, lh1_1e2, lh1_2e2, sh1_3e2)) > (16 : Nat)) then (10 : Int) else coisE (xh0_0e2, xh0_1e2, xh0_2e2, xh0_3e2) (Rung.coils (sh1_0e2, lh1_1e2, lh1_2e2, sh1_3e2))))] [])) (Q [V1.one (Lf.int IntKind.i64 (bif decide (List.length (Rung.coils (sh1_0e2, lh1_1e2, lh1_2e2, sh1_3e2)) > (16 : Nat)) then (10 : Int) else coisE (xh0_0e2, xh0_1e2, xh0_2e2, xh0_3e2) (Rung.coils (sh1_0e2, lh1_1e2, lh1_2e2, sh1_3e2))))] [])) (brP ((bif decide (List.length (Rung.contacts (sh1_0e2, lh1_1e2, lh1_2e2, sh1_3e2)) > (256 : Nat)) then (10 : Int) else consE (xh0_0e2, xh0_1e2, xh0_2e2, xh0_3e2) (Rung.contacts (sh1_0e2, lh1_1e2, lh1_2e2, sh1_3e2))) == (0 : Int)) (brP (ByteArray.toList sh1_3e2 != ByteArray.toList (ByteArray.mk #[])) (brP (!isName sh1_3e2) (Q [V1.one (Lf.int IntKind.i64 (6 : Int))] []) (Q [V1.one (Lf.int IntKind.i64 (bif decide (List.length (Rung.contacts (sh1_0e2, lh1_1e2, lh1_2e2, sh1_3e2)) > (256 : Nat)) then (10 : Int) else consE (xh0_0e2, xh0_1e2, xh0_2e2, xh0_3e2) (Rung.contacts (sh1_0e2, lh1_1e2, lh1_2e2, sh1_3e2))))] [])) (Q [V1.one (Lf.int IntKind.i64 (bif decide (List.length (Rung.contacts (sh1_0e2, lh1_1e2, lh1_2e2, sh1_3e2)) > (256 : Nat)) then (10 : Int) else consE (xh0_0e2, xh0_1e2, xh0_2e2, xh0_3e2) (Rung.contacts (sh1_0e2, lh1_1e2, lh1_2e2, sh1_3e2))))] [])) (Q [V1.one (Lf.int IntKind.i64 (bif decide (List.length (Rung.contacts (sh1_0e2, lh1_1e2, lh1_2e2, sh1_3e2)) > (256 : Nat)) then (10 : Int) else consE (xh0_0e2, xh0_1e2, xh0_2e2, xh0_3e2) (Rung.contacts (sh1_0e2, lh1_1e2, lh1_2e2, sh1_3e2))))] []))
theorem t46c0x1_mono {Q : List V1 → List Ob → Prop} {Q' : List V1 → List Ob → Prop} (hq : ∀ r h, Q r h → Q' r h) (p0 : K.ty k23) (p1 : K.ty (K.int IntKind.i64)) (xh0_0e2 : Int) (xh0_1e2 : Int) (xh0_2e2 : Int) (xh0_3e2 : Int) (sh1_0e2 : ByteArray) (lh1_1e2 : List (K.ty k74)) (lh1_2e2 : List (K.ty k76)) (sh1_3e2 : ByteArray) :
    t46c0x1 Q p0 p1 xh0_0e2 xh0_1e2 xh0_2e2 xh0_3e2 sh1_0e2 lh1_1e2 lh1_2e2 sh1_3e2 → t46c0x1 Q' p0 p1 xh0_0e2 xh0_1e2 xh0_2e2 xh0_3e2 sh1_0e2 lh1_1e2 lh1_2e2 sh1_3e2 :=
  brM (brM (brM (brM (hq _ _) (hq _ _)) (hq _ _)) (hq _ _)) (brM (brM (brM (hq _ _) (hq _ _)) (hq _ _)) (hq _ _))
theorem t46c0x1_eq (Q : List V1 → List Ob → Prop) (p0 : K.ty k23) (p1 : K.ty (K.int IntKind.i64)) (xh0_0e2 : Int) (xh0_1e2 : Int) (xh0_2e2 : Int) (xh0_3e2 : Int) (sh1_0e2 : ByteArray) (lh1_1e2 : List (K.ty k74)) (lh1_2e2 : List (K.ty k76)) (sh1_3e2 : ByteArray) :
    t46c0x1 Q p0 p1 xh0_0e2 xh0_1e2 xh0_2e2 xh0_3e2 sh1_0e2 lh1_1e2 lh1_2e2 sh1_3e2 = ((blkC (0 : Nat) (seqC (awp tt E46 A46 (Code.b (Code.b (Code.b (Code.b (Func.code Try.f46))))) (0 : Nat)) (topC tt Try.f46 0 Q))) (Ex.exit (nat_lit 0)) (X46_0_1 xh0_0e2 xh0_1e2 xh0_2e2 xh0_3e2 sh1_0e2 lh1_1e2 lh1_2e2 sh1_3e2)) := by kernel_rfl
def t46c0x0 (Q : List V1 → List Ob → Prop) (p0 : K.ty k23) (p1 : K.ty (K.int IntKind.i64)) (x4e2 : Int) : Prop :=
  Q [V1.one (Lf.int IntKind.i64 x4e2)] []
theorem t46c0x0_mono {Q : List V1 → List Ob → Prop} {Q' : List V1 → List Ob → Prop} (hq : ∀ r h, Q r h → Q' r h) (p0 : K.ty k23) (p1 : K.ty (K.int IntKind.i64)) (x4e2 : Int) :
    t46c0x0 Q p0 p1 x4e2 → t46c0x0 Q' p0 p1 x4e2 :=
  hq _ _
theorem t46c0x0_eq (Q : List V1 → List Ob → Prop) (p0 : K.ty k23) (p1 : K.ty (K.int IntKind.i64)) (x4e2 : Int) :
    t46c0x0 Q p0 p1 x4e2 = ((blkC (0 : Nat) (seqC (awp tt E46 A46 (Code.b (Code.b (Code.b (Code.b (Func.code Try.f46))))) (0 : Nat)) (topC tt Try.f46 0 Q))) (Ex.ret) (X46_0_0 x4e2)) := by kernel_rfl
def H46 (Q : List V1 → List Ob → Prop) (p0 : K.ty k23) (p1 : K.ty (K.int IntKind.i64)) : Prop := t46 Q (fun p0 p1 => ∃ m, G46_0 (fun x4e2 => t46c0x0 Q p0 p1 x4e2) (fun xh0_0e2 xh0_1e2 xh0_2e2 xh0_3e2 sh1_0e2 lh1_1e2 lh1_2e2 sh1_3e2 => t46c0x1 Q p0 p1 xh0_0e2 xh0_1e2 xh0_2e2 xh0_3e2 sh1_0e2 lh1_1e2 lh1_2e2 sh1_3e2) m (p1) ((0 : Int)) (p0.fst) (p0.snd.fst) (p0.snd.snd.fst) (p0.snd.snd.snd) (p0.fst) (p0.snd.fst) (p0.snd.snd.fst) ((0 : Int)) ((getE k45 p0.snd.snd.snd p1).fst) ((getE k45 p0.snd.snd.snd p1).snd.fst) ((getE k45 p0.snd.snd.snd p1).snd.snd.fst) ((getE k45 p0.snd.snd.snd p1).snd.snd.snd)) p0 p1
theorem ok46 (Q : List V1 → List Ob → Prop) (p0 : K.ty k23) (p1 : K.ty (K.int IntKind.i64)) (h : H46 Q p0 p1) : Of (afun tt E46 A46 Try.f46 (I46 p0 p1) [] Q) :=
  kcO (t46_eq Q p0 p1) (t46_mono (fun _ _ h => h) (fun p0 p1 ⟨m, h⟩ => ⟨m, (T46_0 _ (fun x4e2 h => kcO (t46c0x0_eq _ _ _ _) (t46c0x0_mono (fun _ _ h => h) _ _ _ h)) (fun xh0_0e2 xh0_1e2 xh0_2e2 xh0_3e2 sh1_0e2 lh1_1e2 lh1_2e2 sh1_3e2 h => kcO (t46c0x1_eq _ _ _ _ _ _ _ _ _ _ _) (t46c0x1_mono (fun _ _ h => h) _ _ _ _ _ _ _ _ _ _ h)) m _ _ _ _ _ _ _ _ _ _ _ _ _ _ h).out⟩) p0 p1 h)
theorem env46 : EnvOk Try.prog E46 := .cons spec62 (by kernel_rfl) <| .cons spec63 (by kernel_rfl) <| .cons spec64 (by kernel_rfl) <| .nil
/-- What a rung's parts tell, in the reference's order. -/
def e1R (s : k59.ty) (r : Rung) : Int := bif decide (r.contacts.length > 256) then 10 else consE s r.contacts
def e2R (s : k59.ty) (r : Rung) : Int := bif decide (r.coils.length > 16) then 10 else coisE s r.coils
theorem rungE2_eq (s : k59.ty) (r : Rung) : rungE2 s r = bif e1R s r != 0 then e1R s r else bif e2R s r != 0 then e2R s r else bif !decide (r.jump = str0) && !isName r.jump then 6 else 0 := by
  unfold rungE2 e1R e2R
  cases decide (r.contacts.length > 256) with
  | true => rfl
  | false =>
    simp only [cond_false]
    cases consE s r.contacts != 0 with
    | true => rfl
    | false =>
      simp only [cond_false]
      cases decide (r.coils.length > 16) with
      | true => rfl
      | false => rfl
theorem tail46 (s : k59.ty) (r : Rung) (Q : QT) (h : Q [.one (.int .i64 (rungE2 s r))] []) :
    brP (e1R s r == 0) (brP (e2R s r == 0) (brP (ByteArray.toList r.jump != ByteArray.toList (ByteArray.mk #[])) (brP (!isName r.jump) (Q [.one (.int .i64 6)] []) (Q [.one (.int .i64 (e2R s r))] [])) (Q [.one (.int .i64 (e2R s r))] [])) (Q [.one (.int .i64 (e2R s r))] []))
      (brP (e1R s r == 0) (brP (ByteArray.toList r.jump != ByteArray.toList (ByteArray.mk #[])) (brP (!isName r.jump) (Q [.one (.int .i64 6)] []) (Q [.one (.int .i64 (e1R s r))] [])) (Q [.one (.int .i64 (e1R s r))] [])) (Q [.one (.int .i64 (e1R s r))] [])) := by
  rw [rungE2_eq] at h
  have hb : (ByteArray.toList r.jump != ByteArray.toList (ByteArray.mk #[])) = !decide (r.jump = str0) := by rw [bne, strEq]
  rw [hb]
  refine brP_intro (fun a => ?_) (fun a => ?_)
  · have a1 : (e1R s r != 0) = false := by rw [bne, a]; rfl
    rw [a1] at h
    simp only [cond_false] at h
    refine brP_intro (fun b => ?_) (fun b => ?_)
    · have b1 : (e2R s r != 0) = false := by rw [bne, b]; rfl
      have b2 : e2R s r = 0 := by simpa using b
      rw [b1] at h
      simp only [cond_false] at h
      rw [b2]
      refine brP_intro (fun c => brP_intro (fun d => ?_) (fun d => ?_)) (fun c => ?_)
      · rw [c, d] at h; exact h
      · rw [c, d] at h; exact h
      · rw [c] at h; exact h
    · have b1 : (e2R s r != 0) = true := by rw [bne, b]; rfl
      rw [b1] at h
      exact h
  · have a1 : (e1R s r != 0) = true := by rw [bne, a]; rfl
    rw [a1] at h
    refine brP_intro (fun b => ?_) (fun _ => h)
    rw [a] at b
    cases b
theorem loop46 (rs : List Rung) (m : Nat) (hm : m ≤ rs.length) (hl : rs.length ≤ 1000000) (a b c : Int) (s : k59.ty) (r : Rung) (R0 : Int → Prop) (R1 : Int → Int → Int → Int → ByteArray → List Con → List Coi → ByteArray → Prop) :
    ∀ n (i : Nat), m - i < n → i ≤ m → (((rs.take m).drop i).any (fun x => decide (x.label = r.label)) = true → R0 9) →
      (((rs.take m).drop i).any (fun x => decide (x.label = r.label)) = false → R1 s.1 s.2.1 s.2.2.1 s.2.2.2 r.label r.contacts r.coils r.jump) →
      G46_0 R0 R1 n m i a b c rs s.1 s.2.1 s.2.2.1 s.2.2.2 r.label r.contacts r.coils r.jump := by
  intro n
  induction n with
  | zero => intro i h; omega
  | succ n ih =>
    intro i hn him h0 h1
    have htl : (rs.take m).length = m := by rw [List.length_take]; omega
    refine brP_intro (fun d => ?_) (fun d => ?_)
    · have d : i < m := by have := of_decide_eq_true d; omega
      have hg : getE k45 (rs.take m) (i : Int) = getE k45 rs (i : Int) := by
        unfold getE
        rw [Int.toNat_natCast, List.getD_eq_getElem?_getD, List.getD_eq_getElem?_getD, List.getElem?_take, if_pos d]
      rw [getE_cons k45 (rs.take m) i (by omega), List.any_cons, hg] at h0 h1
      refine ⟨⟨by omega, by omega⟩, ?_⟩
      rw [strEq]
      refine brP_intro (fun e => h0 ?_) (fun e => ?_)
      · have e : decide (Rung.label (getE k45 rs i) = r.label) = true := e
        rw [e]; rfl
      · have e : decide (Rung.label (getE k45 rs i) = r.label) = false := e
        rw [e, Bool.false_or] at h0 h1
        rw [wrap_in (by omega) (by omega)]
        exact ih (i + 1) (by omega) (by omega) h0 h1
    · have d : ¬ i < m := by have := of_decide_eq_false d; omega
      rw [List.drop_of_length_le (by omega)] at h1
      exact h1 rfl
theorem spec46 : SpecOk Try.prog 46 sp46 := S2.ok tt_ok mixed env46 Try.func46 fun (l : Lad) (i : Int) Q h => ok46 Q l i <| by
  obtain ⟨⟨hb, hl⟩, h⟩ := h
  have hb1 := hb.1
  have hb2 := hb.2
  obtain ⟨m, rfl⟩ : ∃ m : Nat, i = (m : Int) := ⟨i.toNat, by omega⟩
  unfold rungE at h
  rw [idxP_any] at h
  have hc : (ByteArray.toList (getE k45 (Lad.rungs l) (m : Int)).fst != ByteArray.toList (ByteArray.mk #[])) = !decide (Rung.label (getE k45 (Lad.rungs l) (m : Int)) = str0) := by rw [bne, strEq]
  refine ⟨hb, brP_intro (fun c => ?_) (fun c => ?_)⟩
  · rw [hc] at c
    simp only [c, Bool.true_and] at h
    refine brP_intro (fun d => ?_) (fun d => ?_)
    · have d : (!isName (Rung.label (getE k45 (Lad.rungs l) (m : Int)))) = true := d
      rw [d] at h; exact h
    · have d : (!isName (Rung.label (getE k45 (Lad.rungs l) (m : Int)))) = false := d
      rw [d] at h
      simp only [cond_false, Int.toNat_natCast] at h
      refine ⟨m + 1, loop46 (Lad.rungs l) m (by omega) hl l.1 l.2.1 l.2.2.1 (sizesOf l) (getE k45 (Lad.rungs l) (m : Int)) _ _ _ 0 (by omega) (by omega) (fun e => ?_) (fun e => ?_)⟩
      · rw [List.drop_zero] at e
        rw [e] at h; exact h
      · rw [List.drop_zero] at e
        rw [e] at h
        exact tail46 (sizesOf l) (getE k45 (Lad.rungs l) (m : Int)) Q h
  · rw [hc] at c
    simp only [c, Bool.false_and, cond_false] at h
    exact tail46 (sizesOf l) (getE k45 (Lad.rungs l) (m : Int)) Q h
-- f28 "busbar/busbarref11.Check" ['24'] -> ['3', '3']
def A28 : Ann := [(0, [1, 4], [1], [2, 3]), (2, [1, 6], [1], [2, 3])]
def E28 : Env := [(46, sp46), (47, sp47)]
def I28 (p0 : (k23 : K).ty) : List V1 := [nfK k23 p0]
noncomputable def L28_0 : Code := Code.a (Code.a (Code.b (Code.a (Code.b (Code.b (Code.b (Func.code Try.f28)))))))
def S28_0 (x4 : Int) (xh0_0 : Int) (xh0_1 : Int) (xh0_2 : Int) (lh0_3 : List (K.ty k45)) : St := sp (83 : Nat) [((1 : Nat), V.v (V1.one (Lf.ptr (nat_lit 0) (nat_lit 0)))), ((4 : Nat), V.v (V1.one (Lf.int IntKind.i64 x4)))] [Ob.box (24 : Nat) [Lf.int IntKind.i64 xh0_0, Lf.int IntKind.i64 xh0_1, Lf.int IntKind.i64 xh0_2, Lf.sl (46 : TypeId) k45 lh0_3]]
def X28_0_0 (x2 : Int) (x3 : Int) : St := sp (83 : Nat) [((2 : Nat), V.v (V1.one (Lf.int IntKind.i64 x2))), ((3 : Nat), V.v (V1.one (Lf.int IntKind.i64 x3)))] []
def X28_0_1 (xh0_0 : Int) (xh0_1 : Int) (xh0_2 : Int) (lh0_3 : List (K.ty k45)) : St := sp (83 : Nat) [((1 : Nat), V.v (V1.one (Lf.ptr (nat_lit 0) (nat_lit 0))))] [Ob.box (24 : Nat) [Lf.int IntKind.i64 xh0_0, Lf.int IntKind.i64 xh0_1, Lf.int IntKind.i64 xh0_2, Lf.sl (46 : TypeId) k45 lh0_3]]
noncomputable def L28_2 : Code := Code.a (Code.a (Code.b (Code.a (Code.b (Code.b (Code.b (Code.b (Func.code Try.f28))))))))
def S28_2 (x6 : Int) (xh0_0 : Int) (xh0_1 : Int) (xh0_2 : Int) (lh0_3 : List (K.ty k45)) : St := sp (83 : Nat) [((1 : Nat), V.v (V1.one (Lf.ptr (nat_lit 0) (nat_lit 0)))), ((6 : Nat), V.v (V1.one (Lf.int IntKind.i64 x6)))] [Ob.box (24 : Nat) [Lf.int IntKind.i64 xh0_0, Lf.int IntKind.i64 xh0_1, Lf.int IntKind.i64 xh0_2, Lf.sl (46 : TypeId) k45 lh0_3]]
def X28_2_0 (x2 : Int) (x3 : Int) : St := sp (83 : Nat) [((2 : Nat), V.v (V1.one (Lf.int IntKind.i64 x2))), ((3 : Nat), V.v (V1.one (Lf.int IntKind.i64 x3)))] []
def X28_2_1 (xh0_0 : Int) (xh0_1 : Int) (xh0_2 : Int) (lh0_3 : List (K.ty k45)) : St := sp (83 : Nat) [((1 : Nat), V.v (V1.one (Lf.ptr (nat_lit 0) (nat_lit 0))))] [Ob.box (24 : Nat) [Lf.int IntKind.i64 xh0_0, Lf.int IntKind.i64 xh0_1, Lf.int IntKind.i64 xh0_2, Lf.sl (46 : TypeId) k45 lh0_3]]
def t28_2 (again : Int → Int → Int → Int → List (K.ty k45) → Prop) (R0 : Int → Int → Prop) (R1 : Int → Int → Int → List (K.ty k45) → Prop) (x6 : Int) (xh0_0 : Int) (xh0_1 : Int) (xh0_2 : Int) (lh0_3 : List (K.ty k45)) : Prop :=
  brP (decide (x6 < (↑(List.length lh0_3) : Int))) (bound x6 (List.length lh0_3) ∧ brP (ByteArray.toList (getE k45 lh0_3 x6).snd.snd.snd != ByteArray.toList (ByteArray.mk #[])) (bound x6 (List.length lh0_3) ∧ (bound x6 (List.length (Lad.rungs (xh0_0, xh0_1, xh0_2, lh0_3))) ∧ List.length (Lad.rungs (xh0_0, xh0_1, xh0_2, lh0_3)) ≤ (1000000 : Nat)) ∧ brP (!decide ((0 : Int) ≤ idxP (fun (r : Rung) => decide (Rung.label r = (getE k45 lh0_3 x6).snd.snd.snd)) (List.drop (Int.toNat (x6 + (1 : Int))) (Lad.rungs (xh0_0, xh0_1, xh0_2, lh0_3))) (0 : Nat))) (R0 x6 (15 : Int)) (again (IntKind.wrap IntKind.i64 (x6 + (1 : Int))) xh0_0 xh0_1 xh0_2 lh0_3)) (again (IntKind.wrap IntKind.i64 (x6 + (1 : Int))) xh0_0 xh0_1 xh0_2 lh0_3)) (R1 xh0_0 xh0_1 xh0_2 lh0_3)
theorem t28_2_mono {again : Int → Int → Int → Int → List (K.ty k45) → Prop} {R0 : Int → Int → Prop} {R1 : Int → Int → Int → List (K.ty k45) → Prop} {again' : Int → Int → Int → Int → List (K.ty k45) → Prop} {R0' : Int → Int → Prop} {R1' : Int → Int → Int → List (K.ty k45) → Prop} (ha : ∀ x6 xh0_0 xh0_1 xh0_2 lh0_3, again x6 xh0_0 xh0_1 xh0_2 lh0_3 → again' x6 xh0_0 xh0_1 xh0_2 lh0_3) (hr0 : ∀ x2 x3, R0 x2 x3 → R0' x2 x3) (hr1 : ∀ xh0_0 xh0_1 xh0_2 lh0_3, R1 xh0_0 xh0_1 xh0_2 lh0_3 → R1' xh0_0 xh0_1 xh0_2 lh0_3) (x6 : Int) (xh0_0 : Int) (xh0_1 : Int) (xh0_2 : Int) (lh0_3 : List (K.ty k45)) :
    t28_2 again R0 R1 x6 xh0_0 xh0_1 xh0_2 lh0_3 → t28_2 again' R0' R1' x6 xh0_0 xh0_1 xh0_2 lh0_3 :=
  brM (andM (id) (brM (andM (id) (andM (andM (id) (id)) (brM (hr0 _ _) (ha _ _ _ _ _)))) (ha _ _ _ _ _))) (hr1 _ _ _ _)
theorem t28_2_eq (n : Nat) (Q : Ex → St → Prop) (x6 : Int) (xh0_0 : Int) (xh0_1 : Int) (xh0_2 : Int) (lh0_3 : List (K.ty k45)) :
    t28_2 (fun x6 xh0_0 xh0_1 xh0_2 lh0_3 => loopP (awp tt E28 A28 L28_2 2) ([(1 : Nat), (6 : Nat)], [(1 : Nat)], [(2 : Nat), (3 : Nat)]) n (S28_2 x6 xh0_0 xh0_1 xh0_2 lh0_3) Q) (fun x2 x3 => Q (Ex.ret) (X28_2_0 x2 x3)) (fun xh0_0 xh0_1 xh0_2 lh0_3 => Q (Ex.exit (nat_lit 2)) (X28_2_1 xh0_0 xh0_1 xh0_2 lh0_3)) x6 xh0_0 xh0_1 xh0_2 lh0_3 = (loopP (awp tt E28 A28 L28_2 2) ([(1 : Nat), (6 : Nat)], [(1 : Nat)], [(2 : Nat), (3 : Nat)]) (n + 1) (S28_2 x6 xh0_0 xh0_1 xh0_2 lh0_3) Q) := by kernel_rfl
def G28_2 (R0 : Int → Int → Prop) (R1 : Int → Int → Int → List (K.ty k45) → Prop) : Nat → Int → Int → Int → Int → List (K.ty k45) → Prop
  | 0, _, _, _, _, _ => False
  | n + 1, x6, xh0_0, xh0_1, xh0_2, lh0_3 => t28_2 (G28_2 R0 R1 n) R0 R1 x6 xh0_0 xh0_1 xh0_2 lh0_3
theorem T28_2 {R0 : Int → Int → Prop} {R1 : Int → Int → Int → List (K.ty k45) → Prop} (Q : Ex → St → Prop) (hr0 : ∀ x2 x3, R0 x2 x3 → Of (Q (Ex.ret) (X28_2_0 x2 x3))) (hr1 : ∀ xh0_0 xh0_1 xh0_2 lh0_3, R1 xh0_0 xh0_1 xh0_2 lh0_3 → Of (Q (Ex.exit (nat_lit 2)) (X28_2_1 xh0_0 xh0_1 xh0_2 lh0_3))) : ∀ (n : Nat) (x6 : Int) (xh0_0 : Int) (xh0_1 : Int) (xh0_2 : Int) (lh0_3 : List (K.ty k45)), G28_2 R0 R1 n x6 xh0_0 xh0_1 xh0_2 lh0_3 → Of (loopP (awp tt E28 A28 L28_2 2) ([(1 : Nat), (6 : Nat)], [(1 : Nat)], [(2 : Nat), (3 : Nat)]) n (S28_2 x6 xh0_0 xh0_1 xh0_2 lh0_3) Q) := by
  intro n
  induction n with
  | zero => intro x6 xh0_0 xh0_1 xh0_2 lh0_3 h; exact h.elim
  | succ n ih =>
    intro x6 xh0_0 xh0_1 xh0_2 lh0_3 h
    exact kcO (t28_2_eq n Q x6 xh0_0 xh0_1 xh0_2 lh0_3) (t28_2_mono (fun _ _ _ _ _ h => (ih _ _ _ _ _ h).out) (fun _ _ h => (hr0 _ _ h).out) (fun _ _ _ _ h => (hr1 _ _ _ _ h).out) x6 xh0_0 xh0_1 xh0_2 lh0_3 h)
def t28_0 (again : Int → Int → Int → Int → List (K.ty k45) → Prop) (R0 : Int → Int → Prop) (R1 : Int → Int → Int → List (K.ty k45) → Prop) (x4 : Int) (xh0_0 : Int) (xh0_1 : Int) (xh0_2 : Int) (lh0_3 : List (K.ty k45)) : Prop :=
  brP (decide (x4 < (↑(List.length lh0_3) : Int))) ((bound x4 (List.length (Lad.rungs (xh0_0, xh0_1, xh0_2, lh0_3))) ∧ List.length (Lad.rungs (xh0_0, xh0_1, xh0_2, lh0_3)) ≤ (1000000 : Nat)) ∧ brP (rungE (sizesOf (xh0_0, xh0_1, xh0_2, lh0_3)) (List.take (Int.toNat x4) (Lad.rungs (xh0_0, xh0_1, xh0_2, lh0_3))) (getE k45 (Lad.rungs (xh0_0, xh0_1, xh0_2, lh0_3)) x4) != (0 : Int)) (R0 x4 (rungE (sizesOf (xh0_0, xh0_1, xh0_2, lh0_3)) (List.take (Int.toNat x4) (Lad.rungs (xh0_0, xh0_1, xh0_2, lh0_3))) (getE k45 (Lad.rungs (xh0_0, xh0_1, xh0_2, lh0_3)) x4))) (again (IntKind.wrap IntKind.i64 (x4 + (1 : Int))) xh0_0 xh0_1 xh0_2 lh0_3)) (R1 xh0_0 xh0_1 xh0_2 lh0_3)
theorem t28_0_mono {again : Int → Int → Int → Int → List (K.ty k45) → Prop} {R0 : Int → Int → Prop} {R1 : Int → Int → Int → List (K.ty k45) → Prop} {again' : Int → Int → Int → Int → List (K.ty k45) → Prop} {R0' : Int → Int → Prop} {R1' : Int → Int → Int → List (K.ty k45) → Prop} (ha : ∀ x4 xh0_0 xh0_1 xh0_2 lh0_3, again x4 xh0_0 xh0_1 xh0_2 lh0_3 → again' x4 xh0_0 xh0_1 xh0_2 lh0_3) (hr0 : ∀ x2 x3, R0 x2 x3 → R0' x2 x3) (hr1 : ∀ xh0_0 xh0_1 xh0_2 lh0_3, R1 xh0_0 xh0_1 xh0_2 lh0_3 → R1' xh0_0 xh0_1 xh0_2 lh0_3) (x4 : Int) (xh0_0 : Int) (xh0_1 : Int) (xh0_2 : Int) (lh0_3 : List (K.ty k45)) :
    t28_0 again R0 R1 x4 xh0_0 xh0_1 xh0_2 lh0_3 → t28_0 again' R0' R1' x4 xh0_0 xh0_1 xh0_2 lh0_3 :=
  brM (andM (andM (id) (id)) (brM (hr0 _ _) (ha _ _ _ _ _))) (hr1 _ _ _ _)
theorem t28_0_eq (n : Nat) (Q : Ex → St → Prop) (x4 : Int) (xh0_0 : Int) (xh0_1 : Int) (xh0_2 : Int) (lh0_3 : List (K.ty k45)) :
    t28_0 (fun x4 xh0_0 xh0_1 xh0_2 lh0_3 => loopP (awp tt E28 A28 L28_0 0) ([(1 : Nat), (4 : Nat)], [(1 : Nat)], [(2 : Nat), (3 : Nat)]) n (S28_0 x4 xh0_0 xh0_1 xh0_2 lh0_3) Q) (fun x2 x3 => Q (Ex.ret) (X28_0_0 x2 x3)) (fun xh0_0 xh0_1 xh0_2 lh0_3 => Q (Ex.exit (nat_lit 0)) (X28_0_1 xh0_0 xh0_1 xh0_2 lh0_3)) x4 xh0_0 xh0_1 xh0_2 lh0_3 = (loopP (awp tt E28 A28 L28_0 0) ([(1 : Nat), (4 : Nat)], [(1 : Nat)], [(2 : Nat), (3 : Nat)]) (n + 1) (S28_0 x4 xh0_0 xh0_1 xh0_2 lh0_3) Q) := by kernel_rfl
def G28_0 (R0 : Int → Int → Prop) (R1 : Int → Int → Int → List (K.ty k45) → Prop) : Nat → Int → Int → Int → Int → List (K.ty k45) → Prop
  | 0, _, _, _, _, _ => False
  | n + 1, x4, xh0_0, xh0_1, xh0_2, lh0_3 => t28_0 (G28_0 R0 R1 n) R0 R1 x4 xh0_0 xh0_1 xh0_2 lh0_3
theorem T28_0 {R0 : Int → Int → Prop} {R1 : Int → Int → Int → List (K.ty k45) → Prop} (Q : Ex → St → Prop) (hr0 : ∀ x2 x3, R0 x2 x3 → Of (Q (Ex.ret) (X28_0_0 x2 x3))) (hr1 : ∀ xh0_0 xh0_1 xh0_2 lh0_3, R1 xh0_0 xh0_1 xh0_2 lh0_3 → Of (Q (Ex.exit (nat_lit 0)) (X28_0_1 xh0_0 xh0_1 xh0_2 lh0_3))) : ∀ (n : Nat) (x4 : Int) (xh0_0 : Int) (xh0_1 : Int) (xh0_2 : Int) (lh0_3 : List (K.ty k45)), G28_0 R0 R1 n x4 xh0_0 xh0_1 xh0_2 lh0_3 → Of (loopP (awp tt E28 A28 L28_0 0) ([(1 : Nat), (4 : Nat)], [(1 : Nat)], [(2 : Nat), (3 : Nat)]) n (S28_0 x4 xh0_0 xh0_1 xh0_2 lh0_3) Q) := by
  intro n
  induction n with
  | zero => intro x4 xh0_0 xh0_1 xh0_2 lh0_3 h; exact h.elim
  | succ n ih =>
    intro x4 xh0_0 xh0_1 xh0_2 lh0_3 h
    exact kcO (t28_0_eq n Q x4 xh0_0 xh0_1 xh0_2 lh0_3) (t28_0_mono (fun _ _ _ _ _ h => (ih _ _ _ _ _ h).out) (fun _ _ h => (hr0 _ _ h).out) (fun _ _ _ _ h => (hr1 _ _ _ _ h).out) x4 xh0_0 xh0_1 xh0_2 lh0_3 h)
def t28 (Q : List V1 → List Ob → Prop) (lp0 : K.ty k23 → Prop) (p0 : K.ty k23) : Prop :=
  brP (decide (p0.fst < (0 : Int))) (Q [V1.one (Lf.int IntKind.i64 (0 : Int)), V1.one (Lf.int IntKind.i64 (3 : Int))] []) (brP (decide (p0.fst > (256 : Int))) (Q [V1.one (Lf.int IntKind.i64 (0 : Int)), V1.one (Lf.int IntKind.i64 (3 : Int))] []) (brP (decide (p0.snd.fst < (0 : Int))) (Q [V1.one (Lf.int IntKind.i64 (0 : Int)), V1.one (Lf.int IntKind.i64 (3 : Int))] []) (brP (decide (p0.snd.fst > (256 : Int))) (Q [V1.one (Lf.int IntKind.i64 (0 : Int)), V1.one (Lf.int IntKind.i64 (3 : Int))] []) (brP (decide (p0.snd.snd.fst < (0 : Int))) (Q [V1.one (Lf.int IntKind.i64 (0 : Int)), V1.one (Lf.int IntKind.i64 (3 : Int))] []) (brP (decide (p0.snd.snd.fst > (256 : Int))) (Q [V1.one (Lf.int IntKind.i64 (0 : Int)), V1.one (Lf.int IntKind.i64 (3 : Int))] []) (brP (decide ((↑(List.length p0.snd.snd.snd) : Int) > (64 : Int))) (Q [V1.one (Lf.int IntKind.i64 (0 : Int)), V1.one (Lf.int IntKind.i64 (10 : Int))] []) (lp0 p0)))))))
theorem t28_mono {Q : List V1 → List Ob → Prop} {Q' : List V1 → List Ob → Prop} {lp0 : K.ty k23 → Prop} {lp0' : K.ty k23 → Prop} (hq : ∀ r h, Q r h → Q' r h) (hlp0 : ∀ p0, lp0 p0 → lp0' p0) (p0 : K.ty k23) :
    t28 Q lp0 p0 → t28 Q' lp0' p0 :=
  brM (hq _ _) (brM (hq _ _) (brM (hq _ _) (brM (hq _ _) (brM (hq _ _) (brM (hq _ _) (brM (hq _ _) (hlp0 _)))))))
theorem t28_eq (Q : List V1 → List Ob → Prop) (p0 : K.ty k23) :
    t28 Q (fun p0 => ∃ m, loopP (awp tt E28 A28 L28_0 0) ([(1 : Nat), (4 : Nat)], [(1 : Nat)], [(2 : Nat), (3 : Nat)]) m (S28_0 ((0 : Int)) (p0.fst) (p0.snd.fst) (p0.snd.snd.fst) (p0.snd.snd.snd)) (blkC (0 : Nat) (seqC (awp tt E28 A28 (Code.b (Code.b (Code.b (Code.b (Func.code Try.f28))))) (0 : Nat)) (topC tt Try.f28 0 Q)))) p0 = (afun tt E28 A28 Try.f28 (I28 p0) [] Q) := by kernel_rfl
def t28c0x1 (Q : List V1 → List Ob → Prop) (lp0 : K.ty k23 → Int → Int → Int → List (K.ty k45) → Prop) (p0 : K.ty k23) (xh0_0e1 : Int) (xh0_1e1 : Int) (xh0_2e1 : Int) (lh0_3e1 : List (K.ty k45)) : Prop :=
  lp0 p0 xh0_0e1 xh0_1e1 xh0_2e1 lh0_3e1
theorem t28c0x1_mono {Q : List V1 → List Ob → Prop} {Q' : List V1 → List Ob → Prop} {lp0 : K.ty k23 → Int → Int → Int → List (K.ty k45) → Prop} {lp0' : K.ty k23 → Int → Int → Int → List (K.ty k45) → Prop} (hq : ∀ r h, Q r h → Q' r h) (hlp0 : ∀ p0 xh0_0e1 xh0_1e1 xh0_2e1 lh0_3e1, lp0 p0 xh0_0e1 xh0_1e1 xh0_2e1 lh0_3e1 → lp0' p0 xh0_0e1 xh0_1e1 xh0_2e1 lh0_3e1) (p0 : K.ty k23) (xh0_0e1 : Int) (xh0_1e1 : Int) (xh0_2e1 : Int) (lh0_3e1 : List (K.ty k45)) :
    t28c0x1 Q lp0 p0 xh0_0e1 xh0_1e1 xh0_2e1 lh0_3e1 → t28c0x1 Q' lp0' p0 xh0_0e1 xh0_1e1 xh0_2e1 lh0_3e1 :=
  hlp0 _ _ _ _ _
theorem t28c0x1_eq (Q : List V1 → List Ob → Prop) (p0 : K.ty k23) (xh0_0e1 : Int) (xh0_1e1 : Int) (xh0_2e1 : Int) (lh0_3e1 : List (K.ty k45)) :
    t28c0x1 Q (fun p0 xh0_0e1 xh0_1e1 xh0_2e1 lh0_3e1 => ∃ m, loopP (awp tt E28 A28 L28_2 2) ([(1 : Nat), (6 : Nat)], [(1 : Nat)], [(2 : Nat), (3 : Nat)]) m (S28_2 ((0 : Int)) (xh0_0e1) (xh0_1e1) (xh0_2e1) (lh0_3e1)) (blkC (2 : Nat) (seqC (awp tt E28 A28 (Code.b (Code.b (Code.b (Code.b (Code.b (Func.code Try.f28)))))) (0 : Nat)) (topC tt Try.f28 0 Q)))) p0 xh0_0e1 xh0_1e1 xh0_2e1 lh0_3e1 = ((blkC (0 : Nat) (seqC (awp tt E28 A28 (Code.b (Code.b (Code.b (Code.b (Func.code Try.f28))))) (0 : Nat)) (topC tt Try.f28 0 Q))) (Ex.exit (nat_lit 0)) (X28_0_1 xh0_0e1 xh0_1e1 xh0_2e1 lh0_3e1)) := by kernel_rfl
def t28c0x1c0x1 (Q : List V1 → List Ob → Prop) (p0 : K.ty k23) (xh0_0e1 : Int) (xh0_1e1 : Int) (xh0_2e1 : Int) (lh0_3e1 : List (K.ty k45)) (xh0_0e5 : Int) (xh0_1e5 : Int) (xh0_2e5 : Int) (lh0_3e5 : List (K.ty k45)) : Prop :=
  Q [V1.one (Lf.int IntKind.i64 (↑(List.length lh0_3e5) : Int)), V1.one (Lf.int IntKind.i64 (0 : Int))] []
theorem t28c0x1c0x1_mono {Q : List V1 → List Ob → Prop} {Q' : List V1 → List Ob → Prop} (hq : ∀ r h, Q r h → Q' r h) (p0 : K.ty k23) (xh0_0e1 : Int) (xh0_1e1 : Int) (xh0_2e1 : Int) (lh0_3e1 : List (K.ty k45)) (xh0_0e5 : Int) (xh0_1e5 : Int) (xh0_2e5 : Int) (lh0_3e5 : List (K.ty k45)) :
    t28c0x1c0x1 Q p0 xh0_0e1 xh0_1e1 xh0_2e1 lh0_3e1 xh0_0e5 xh0_1e5 xh0_2e5 lh0_3e5 → t28c0x1c0x1 Q' p0 xh0_0e1 xh0_1e1 xh0_2e1 lh0_3e1 xh0_0e5 xh0_1e5 xh0_2e5 lh0_3e5 :=
  hq _ _
theorem t28c0x1c0x1_eq (Q : List V1 → List Ob → Prop) (p0 : K.ty k23) (xh0_0e1 : Int) (xh0_1e1 : Int) (xh0_2e1 : Int) (lh0_3e1 : List (K.ty k45)) (xh0_0e5 : Int) (xh0_1e5 : Int) (xh0_2e5 : Int) (lh0_3e5 : List (K.ty k45)) :
    t28c0x1c0x1 Q p0 xh0_0e1 xh0_1e1 xh0_2e1 lh0_3e1 xh0_0e5 xh0_1e5 xh0_2e5 lh0_3e5 = ((blkC (2 : Nat) (seqC (awp tt E28 A28 (Code.b (Code.b (Code.b (Code.b (Code.b (Func.code Try.f28)))))) (0 : Nat)) (topC tt Try.f28 0 Q))) (Ex.exit (nat_lit 2)) (X28_2_1 xh0_0e5 xh0_1e5 xh0_2e5 lh0_3e5)) := by kernel_rfl
def t28c0x1c0x0 (Q : List V1 → List Ob → Prop) (p0 : K.ty k23) (xh0_0e1 : Int) (xh0_1e1 : Int) (xh0_2e1 : Int) (lh0_3e1 : List (K.ty k45)) (x2e5 : Int) (x3e5 : Int) : Prop :=
  Q [V1.one (Lf.int IntKind.i64 x2e5), V1.one (Lf.int IntKind.i64 x3e5)] []
theorem t28c0x1c0x0_mono {Q : List V1 → List Ob → Prop} {Q' : List V1 → List Ob → Prop} (hq : ∀ r h, Q r h → Q' r h) (p0 : K.ty k23) (xh0_0e1 : Int) (xh0_1e1 : Int) (xh0_2e1 : Int) (lh0_3e1 : List (K.ty k45)) (x2e5 : Int) (x3e5 : Int) :
    t28c0x1c0x0 Q p0 xh0_0e1 xh0_1e1 xh0_2e1 lh0_3e1 x2e5 x3e5 → t28c0x1c0x0 Q' p0 xh0_0e1 xh0_1e1 xh0_2e1 lh0_3e1 x2e5 x3e5 :=
  hq _ _
theorem t28c0x1c0x0_eq (Q : List V1 → List Ob → Prop) (p0 : K.ty k23) (xh0_0e1 : Int) (xh0_1e1 : Int) (xh0_2e1 : Int) (lh0_3e1 : List (K.ty k45)) (x2e5 : Int) (x3e5 : Int) :
    t28c0x1c0x0 Q p0 xh0_0e1 xh0_1e1 xh0_2e1 lh0_3e1 x2e5 x3e5 = ((blkC (2 : Nat) (seqC (awp tt E28 A28 (Code.b (Code.b (Code.b (Code.b (Code.b (Func.code Try.f28)))))) (0 : Nat)) (topC tt Try.f28 0 Q))) (Ex.ret) (X28_2_0 x2e5 x3e5)) := by kernel_rfl
def t28c0x0 (Q : List V1 → List Ob → Prop) (p0 : K.ty k23) (x2e1 : Int) (x3e1 : Int) : Prop :=
  Q [V1.one (Lf.int IntKind.i64 x2e1), V1.one (Lf.int IntKind.i64 x3e1)] []
theorem t28c0x0_mono {Q : List V1 → List Ob → Prop} {Q' : List V1 → List Ob → Prop} (hq : ∀ r h, Q r h → Q' r h) (p0 : K.ty k23) (x2e1 : Int) (x3e1 : Int) :
    t28c0x0 Q p0 x2e1 x3e1 → t28c0x0 Q' p0 x2e1 x3e1 :=
  hq _ _
theorem t28c0x0_eq (Q : List V1 → List Ob → Prop) (p0 : K.ty k23) (x2e1 : Int) (x3e1 : Int) :
    t28c0x0 Q p0 x2e1 x3e1 = ((blkC (0 : Nat) (seqC (awp tt E28 A28 (Code.b (Code.b (Code.b (Code.b (Func.code Try.f28))))) (0 : Nat)) (topC tt Try.f28 0 Q))) (Ex.ret) (X28_0_0 x2e1 x3e1)) := by kernel_rfl
def H28 (Q : List V1 → List Ob → Prop) (p0 : K.ty k23) : Prop := t28 Q (fun p0 => ∃ m, G28_0 (fun x2e1 x3e1 => t28c0x0 Q p0 x2e1 x3e1) (fun xh0_0e1 xh0_1e1 xh0_2e1 lh0_3e1 => t28c0x1 Q (fun p0 xh0_0e1 xh0_1e1 xh0_2e1 lh0_3e1 => ∃ m, G28_2 (fun x2e5 x3e5 => t28c0x1c0x0 Q p0 xh0_0e1 xh0_1e1 xh0_2e1 lh0_3e1 x2e5 x3e5) (fun xh0_0e5 xh0_1e5 xh0_2e5 lh0_3e5 => t28c0x1c0x1 Q p0 xh0_0e1 xh0_1e1 xh0_2e1 lh0_3e1 xh0_0e5 xh0_1e5 xh0_2e5 lh0_3e5) m ((0 : Int)) (xh0_0e1) (xh0_1e1) (xh0_2e1) (lh0_3e1)) p0 xh0_0e1 xh0_1e1 xh0_2e1 lh0_3e1) m ((0 : Int)) (p0.fst) (p0.snd.fst) (p0.snd.snd.fst) (p0.snd.snd.snd)) p0
theorem ok28 (Q : List V1 → List Ob → Prop) (p0 : K.ty k23) (h : H28 Q p0) : Of (afun tt E28 A28 Try.f28 (I28 p0) [] Q) :=
  kcO (t28_eq Q p0) (t28_mono (fun _ _ h => h) (fun p0 ⟨m, h⟩ => ⟨m, (T28_0 _ (fun x2e1 x3e1 h => kcO (t28c0x0_eq _ _ _ _) (t28c0x0_mono (fun _ _ h => h) _ _ _ h)) (fun xh0_0e1 xh0_1e1 xh0_2e1 lh0_3e1 h => kcO (t28c0x1_eq _ _ _ _ _ _) (t28c0x1_mono (fun _ _ h => h) (fun p0 xh0_0e1 xh0_1e1 xh0_2e1 lh0_3e1 ⟨m, h⟩ => ⟨m, (T28_2 _ (fun x2e5 x3e5 h => kcO (t28c0x1c0x0_eq _ _ _ _ _ _ _ _) (t28c0x1c0x0_mono (fun _ _ h => h) _ _ _ _ _ _ _ h)) (fun xh0_0e5 xh0_1e5 xh0_2e5 lh0_3e5 h => kcO (t28c0x1c0x1_eq _ _ _ _ _ _ _ _ _ _) (t28c0x1c0x1_mono (fun _ _ h => h) _ _ _ _ _ _ _ _ _ h)) m _ _ _ _ _ h).out⟩) _ _ _ _ _ h)) m _ _ _ _ _ h).out⟩) p0 h)
theorem env28 : EnvOk Try.prog E28 := .cons spec46 (by kernel_rfl) <| .cons spec47 (by kernel_rfl) <| .nil
theorem loop28a (l : Lad) (R0 : Int → Int → Prop) (R1 : Int → Int → Int → List Rung → Prop) (hl : l.rungs.length ≤ 1000000) :
    ∀ n k (i : Nat), k < n → i + k = l.rungs.length → (∀ x, chk1 (sizesOf l) l.rungs i k = some x → R0 x.1 x.2) → (chk1 (sizesOf l) l.rungs i k = none → R1 l.1 l.2.1 l.2.2.1 l.rungs) →
      G28_0 R0 R1 n i l.1 l.2.1 l.2.2.1 l.rungs := by
  intro n
  induction n with
  | zero => intro k i h; omega
  | succ n ih =>
    intro k i hk hi h0 h1
    refine brP_intro (fun d => ?_) (fun d => ?_)
    · have d : i < l.rungs.length := by simpa using d
      cases k with
      | zero => omega
      | succ k =>
        simp only [chk1] at h0 h1
        rw [Int.toNat_natCast]
        refine ⟨⟨⟨by omega, by show (i : Int) < (l.rungs.length : Int); omega⟩, hl⟩, ?_⟩
        refine brP_intro (fun e => ?_) (fun e => ?_)
        · have e : (rungE (sizesOf l) (l.rungs.take i) (getE k45 l.rungs i) != 0) = true := e
          rw [e] at h0
          exact h0 _ rfl
        · have e : (rungE (sizesOf l) (l.rungs.take i) (getE k45 l.rungs i) != 0) = false := e
          rw [e] at h0 h1
          rw [wrap_in (by omega) (by omega)]
          exact ih k (i + 1) (by omega) (by omega) h0 h1
    · have d : ¬ i < l.rungs.length := by simpa using d
      obtain rfl : k = 0 := by omega
      exact h1 rfl
theorem loop28b (l : Lad) (R0 : Int → Int → Prop) (R1 : Int → Int → Int → List Rung → Prop) (hl : l.rungs.length ≤ 1000000) :
    ∀ n k (i : Nat), k < n → i + k = l.rungs.length → (∀ x, chk2 l.rungs i k = some x → R0 x.1 x.2) → (chk2 l.rungs i k = none → R1 l.1 l.2.1 l.2.2.1 l.rungs) →
      G28_2 R0 R1 n i l.1 l.2.1 l.2.2.1 l.rungs := by
  intro n
  induction n with
  | zero => intro k i h; omega
  | succ n ih =>
    intro k i hk hi h0 h1
    refine brP_intro (fun d => ?_) (fun d => ?_)
    · have d : i < l.rungs.length := by simpa using d
      cases k with
      | zero => omega
      | succ k =>
        simp only [chk2] at h0 h1
        have hw : IntKind.i64.wrap ((i : Int) + 1) = ((i + 1 : Nat) : Int) := by rw [wrap_in (by omega) (by omega)]; omega
        have hn : Int.toNat ((i : Int) + 1) = i + 1 := by omega
        have hb : (ByteArray.toList (getE k45 l.rungs i).snd.snd.snd != ByteArray.toList (ByteArray.mk #[])) = !decide (Rung.jump (getE k45 l.rungs i) = str0) := by rw [bne, strEq]
        have hbd : bound (i : Int) l.rungs.length := ⟨by omega, by omega⟩
        rw [hw, hn]
        refine ⟨hbd, brP_intro (fun e => ⟨hbd, ⟨hbd, hl⟩, ?_⟩) (fun e => ?_)⟩
        · rw [hb] at e
          rw [e] at h0 h1
          refine brP_intro (fun f => ?_) (fun f => ?_)
          · have f : (!found l.rungs i) = true := f
            rw [f] at h0
            exact h0 _ rfl
          · have f : (!found l.rungs i) = false := f
            rw [f] at h0 h1
            exact ih k (i + 1) (by omega) (by omega) h0 h1
        · rw [hb] at e
          rw [e] at h0 h1
          exact ih k (i + 1) (by omega) (by omega) h0 h1
    · have d : ¬ i < l.rungs.length := by simpa using d
      obtain rfl : k = 0 := by omega
      exact h1 rfl
theorem size0 (a b c : Int) : ((a < 0 ∨ a > 256 ∨ b < 0 ∨ b > 256 ∨ c < 0 ∨ c > 256) → (checkSize (a, b, c, 0) != 0) = true) ∧ (¬ a < 0 → ¬ a > 256 → ¬ b < 0 → ¬ b > 256 → ¬ c < 0 → ¬ c > 256 → (checkSize (a, b, c, 0) != 0) = false) := by
  unfold checkSize within
  refine ⟨fun h => ?_, fun h1 h2 h3 h4 h5 h6 => ?_⟩
  · by_cases h1 : 0 ≤ a <;> by_cases h2 : a ≤ 256 <;> by_cases h3 : 0 ≤ b <;> by_cases h4 : b ≤ 256 <;> by_cases h5 : 0 ≤ c <;> by_cases h6 : c ≤ 256 <;> simp [h1, h2, h3, h4, h5, h6]
    omega
  · rw [decide_eq_true (show 0 ≤ a by omega), decide_eq_true (show a ≤ 256 by omega), decide_eq_true (show 0 ≤ b by omega), decide_eq_true (show b ≤ 256 by omega), decide_eq_true (show 0 ≤ c by omega), decide_eq_true (show c ≤ 256 by omega)]
    rfl
theorem spec28 : SpecOk Try.prog 28 sp28 := S1.ok tt_ok mixed env28 Try.func28 fun (l : Lad) Q h => ok28 Q l <| by
  have h : Q [.one (.int .i64 (checkL l).1), .one (.int .i64 (checkL l).2)] [] := h
  unfold checkL at h
  obtain ⟨z1, z2⟩ := size0 l.1 l.2.1 l.2.2.1
  have bad : (checkSize (l.1, l.2.1, l.2.2.1, 0) != 0) = true → Q [.one (.int .i64 0), .one (.int .i64 3)] [] := fun c => by
    have c : (checkSize (sizesOf l) != 0) = true := c
    rw [c] at h; exact h
  refine brP_intro (fun c => bad (z1 (.inl (of_decide_eq_true c)))) (fun c1 => brP_intro (fun c => bad (z1 (.inr (.inl (of_decide_eq_true c))))) (fun c2 => brP_intro (fun c => bad (z1 (.inr (.inr (.inl (of_decide_eq_true c)))))) (fun c3 => brP_intro (fun c => bad (z1 (.inr (.inr (.inr (.inl (of_decide_eq_true c)))))))
    (fun c4 => brP_intro (fun c => bad (z1 (.inr (.inr (.inr (.inr (.inl (of_decide_eq_true c)))))))) (fun c5 => brP_intro (fun c => bad (z1 (.inr (.inr (.inr (.inr (.inr (of_decide_eq_true c)))))))) (fun c6 => ?_))))))
  have ok : (checkSize (sizesOf l) != 0) = false := z2 (of_decide_eq_false c1) (of_decide_eq_false c2) (of_decide_eq_false c3) (of_decide_eq_false c4) (of_decide_eq_false c5) (of_decide_eq_false c6)
  rw [ok] at h
  simp only [cond_false] at h
  refine brP_intro (fun d => ?_) (fun d => ?_)
  · have d2 : ((Lad.rungs l).length : Int) > 64 := of_decide_eq_true d
    have d : decide ((Lad.rungs l).length > 64) = true := decide_eq_true (by omega)
    rw [d] at h; exact h
  · have d2 : ¬ ((Lad.rungs l).length : Int) > 64 := of_decide_eq_false d
    have d' : decide ((Lad.rungs l).length > 64) = false := decide_eq_false (by omega)
    rw [d'] at h
    simp only [cond_false] at h
    refine ⟨(Lad.rungs l).length + 1, loop28a l _ _ (by omega) _ (Lad.rungs l).length 0 (by omega) (by omega) (fun x hx => ?_) (fun hx => ?_)⟩
    · rw [hx] at h; exact h
    · rw [hx] at h
      simp only at h
      refine ⟨(Lad.rungs l).length + 1, loop28b l _ _ (by omega) _ (Lad.rungs l).length 0 (by omega) (by omega) (fun x hx => ?_) (fun hx => ?_)⟩
      · rw [hx] at h; exact h
      · rw [hx] at h; exact h
end Go.AM
namespace Go.AM
open Go.Proofs
-- f48 "busbar/busbarref16.Contacts" ['46', '25', '27', '3'] -> ['25', '27', '3']
def A48 : Ann := [(0, [1, 3, 4, 6, 9, 11, 12, 13, 14], [9, 11, 12], [8, 9, 10])]
def E48 : Env := [(10, sp10s), (65, sp65), (66, sp66)]
def I48 (p0 : (k45 : K).ty) (p1 : ((.slice 4 .bool) : K).ty) (p2 : (k26 : K).ty) (p3 : ((.int .i64) : K).ty) : List V1 := [nfK k45 p0, nfK (.slice 4 .bool) p1, nfK k26 p2, nfK (.int .i64) p3]
noncomputable def L48_0 : Code := Code.a (Code.a (Code.b (Code.a (Code.b (Code.b (Code.b (Code.b (Func.code Try.f48))))))))
def S48_0 (l1 : List (K.ty K.bool)) (x3 : Int) (x13 : Int) (x14 : Int) (sh0_0 : ByteArray) (lh0_1 : List (K.ty k74)) (lh0_2 : List (K.ty k76)) (sh0_3 : ByteArray) (lh1_0 : List (K.ty K.bool)) (lh1_1 : List (K.ty K.bool)) (lh1_2 : List (K.ty K.bool)) (lh3_0 : List (K.ty K.bool)) (lh3_1 : List (K.ty K.bool)) (lh3_2 : List (K.ty K.bool)) (w4 : List (K.ty K.bool)) : St := sp (116 : Nat) [((1 : Nat), V.v (V1.one (Lf.sl (4 : TypeId) K.bool l1))), ((3 : Nat), V.v (V1.one (Lf.int IntKind.i64 x3))), ((4 : Nat), V.v (V1.one (Lf.ptr (nat_lit 0) (nat_lit 0)))), ((6 : Nat), V.v (V1.one (Lf.ptr (nat_lit 1) (nat_lit 0)))), ((9 : Nat), V.v (V1.one (Lf.ptr (nat_lit 2) (nat_lit 0)))), ((11 : Nat), V.v (V1.one (Lf.ptr (nat_lit 3) (nat_lit 0)))), ((12 : Nat), V.v (V1.one (Lf.own (nat_lit 4)))), ((13 : Nat), V.v (V1.one (Lf.int IntKind.i64 x13))), ((14 : Nat), V.v (V1.one (Lf.int IntKind.i64 x14)))] [Ob.box (46 : Nat) [Lf.str sh0_0, Lf.sl (75 : TypeId) k74 lh0_1, Lf.sl (77 : TypeId) k76 lh0_2, Lf.str sh0_3], Ob.box (27 : Nat) [Lf.sl (4 : TypeId) K.bool lh1_0, Lf.sl (4 : TypeId) K.bool lh1_1, Lf.sl (4 : TypeId) K.bool lh1_2], Ob.box (27 : Nat) [Lf.nils, Lf.nils, Lf.nils], Ob.box (27 : Nat) [Lf.sl (4 : TypeId) K.bool lh3_0, Lf.sl (4 : TypeId) K.bool lh3_1, Lf.sl (4 : TypeId) K.bool lh3_2], Ob.row (4 : TypeId) K.bool w4]
def X48_0_0 (x10 : Int) (w0 : List (K.ty K.bool)) : St := sp (116 : Nat) [((8 : Nat), V.v (V1.one (Lf.own (nat_lit 0)))), ((9 : Nat), V.v (V1.one (Lf.ptr (nat_lit 1) (nat_lit 0)))), ((10 : Nat), V.v (V1.one (Lf.int IntKind.i64 x10)))] [Ob.row (4 : TypeId) K.bool w0, Ob.box (27 : Nat) [Lf.nils, Lf.nils, Lf.nils]]
def X48_0_1 (lh1_0 : List (K.ty K.bool)) (lh1_1 : List (K.ty K.bool)) (lh1_2 : List (K.ty K.bool)) (w2 : List (K.ty K.bool)) : St := sp (116 : Nat) [((9 : Nat), V.v (V1.one (Lf.ptr (nat_lit 0) (nat_lit 0)))), ((11 : Nat), V.v (V1.one (Lf.ptr (nat_lit 1) (nat_lit 0)))), ((12 : Nat), V.v (V1.one (Lf.own (nat_lit 2))))] [Ob.box (27 : Nat) [Lf.nils, Lf.nils, Lf.nils], Ob.box (27 : Nat) [Lf.sl (4 : TypeId) K.bool lh1_0, Lf.sl (4 : TypeId) K.bool lh1_1, Lf.sl (4 : TypeId) K.bool lh1_2], Ob.row (4 : TypeId) K.bool w2]
def t48_0 (again : List (K.ty K.bool) → Int → Int → Int → ByteArray → List (K.ty k74) → List (K.ty k76) → ByteArray → List (K.ty K.bool) → List (K.ty K.bool) → List (K.ty K.bool) → List (K.ty K.bool) → List (K.ty K.bool) → List (K.ty K.bool) → List (K.ty K.bool) → Prop) (R0 : Int → List (K.ty K.bool) → Prop) (R1 : List (K.ty K.bool) → List (K.ty K.bool) → List (K.ty K.bool) → List (K.ty K.bool) → Prop) (l1 : List (K.ty K.bool)) (x3 : Int) (x13 : Int) (x14 : Int) (sh0_0 : ByteArray) (lh0_1 : List (K.ty k74)) (lh0_2 : List (K.ty k76)) (sh0_3 : ByteArray) (lh1_0 : List (K.ty K.bool)) (lh1_1 : List (K.ty K.bool)) (lh1_2 : List (K.ty K.bool)) (lh3_0 : List (K.ty K.bool)) (lh3_1 : List (K.ty K.bool)) (lh3_2 : List (K.ty K.bool)) (w4 : List (K.ty K.bool)) : Prop :=
  brP (decide (x14 < (↑(List.length lh0_1) : Int))) (bound x14 (List.length lh0_1) ∧ brP (decide ((getE k74 lh0_1 x14).fst < (0 : Int))) (R0 (8 : Int) []) (brP (decide ((getE k74 lh0_1 x14).fst > (3 : Int))) (R0 (8 : Int) []) (brP ((readS l1 (lh1_0, lh1_1, lh1_2) (getE k74 lh0_1 x14).snd.fst).snd != (0 : Int)) (R0 (readS l1 (lh1_0, lh1_1, lh1_2) (getE k74 lh0_1 x14).snd.fst).snd []) (brP (decide ((getE k74 lh0_1 x14).fst < (2 : Int))) (room tt (4 : TypeId) (List.length w4 + List.length (List.set (List.replicate (1 : Nat) (K.dflt K.bool)) (0 : Nat) ((readS l1 (lh1_0, lh1_1, lh1_2) (getE k74 lh0_1 x14).snd.fst).fst == ((getE k74 lh0_1 x14).fst == (0 : Int))))) ∧ again l1 x3 x13 (IntKind.wrap IntKind.i64 (x14 + (1 : Int))) sh0_0 lh0_1 lh0_2 sh0_3 lh1_0 lh1_1 lh1_2 lh3_0 lh3_1 lh3_2 (w4 ++ List.set (List.replicate (1 : Nat) (K.dflt K.bool)) (0 : Nat) ((readS l1 (lh1_0, lh1_1, lh1_2) (getE k74 lh0_1 x14).snd.fst).fst == ((getE k74 lh0_1 x14).fst == (0 : Int))))) (brP (decide (x3 < (0 : Int))) (R0 (3 : Int) []) (brP (decide (x3 ≥ (↑(List.length lh1_2) : Int))) (R0 (3 : Int) []) (brP (decide (x13 ≥ IntKind.wrap IntKind.i64 ((↑(List.length lh1_2) : Int) - x3))) (R0 (3 : Int) []) (bound (IntKind.wrap IntKind.i64 (x3 + x13)) (List.length lh1_2) ∧ brP ((readS l1 (lh1_0, lh1_1, lh1_2) (getE k74 lh0_1 x14).snd.fst).fst != getE K.bool lh1_2 (IntKind.wrap IntKind.i64 (x3 + x13))) (room tt (4 : TypeId) (List.length w4 + List.length (List.set (List.replicate (1 : Nat) (K.dflt K.bool)) (0 : Nat) ((readS l1 (lh1_0, lh1_1, lh1_2) (getE k74 lh0_1 x14).snd.fst).fst == ((getE k74 lh0_1 x14).fst == (2 : Int))))) ∧ (List.length lh3_2 ≤ (1000000000000 : Nat) ∧ bound (IntKind.wrap IntKind.i64 (x3 + x13)) (List.length lh3_2)) ∧ again l1 x3 (IntKind.wrap IntKind.i64 (x13 + (1 : Int))) (IntKind.wrap IntKind.i64 (x14 + (1 : Int))) sh0_0 lh0_1 lh0_2 sh0_3 lh1_0 lh1_1 lh1_2 lh3_0 lh3_1 (List.set lh3_2 (Int.toNat (IntKind.wrap IntKind.i64 (x3 + x13))) (readS l1 (lh1_0, lh1_1, lh1_2) (getE k74 lh0_1 x14).snd.fst).fst) (w4 ++ List.set (List.replicate (1 : Nat) (K.dflt K.bool)) (0 : Nat) ((readS l1 (lh1_0, lh1_1, lh1_2) (getE k74 lh0_1 x14).snd.fst).fst == ((getE k74 lh0_1 x14).fst == (2 : Int))))) (room tt (4 : TypeId) (List.length w4 + List.length (List.set (List.replicate (1 : Nat) (K.dflt K.bool)) (0 : Nat) false)) ∧ (List.length lh3_2 ≤ (1000000000000 : Nat) ∧ bound (IntKind.wrap IntKind.i64 (x3 + x13)) (List.length lh3_2)) ∧ again l1 x3 (IntKind.wrap IntKind.i64 (x13 + (1 : Int))) (IntKind.wrap IntKind.i64 (x14 + (1 : Int))) sh0_0 lh0_1 lh0_2 sh0_3 lh1_0 lh1_1 lh1_2 lh3_0 lh3_1 (List.set lh3_2 (Int.toNat (IntKind.wrap IntKind.i64 (x3 + x13))) (readS l1 (lh1_0, lh1_1, lh1_2) (getE k74 lh0_1 x14).snd.fst).fst) (w4 ++ List.set (List.replicate (1 : Nat) (K.dflt K.bool)) (0 : Nat) false)))))))))) (R1 lh3_0 lh3_1 lh3_2 w4)
theorem t48_0_mono {again : List (K.ty K.bool) → Int → Int → Int → ByteArray → List (K.ty k74) → List (K.ty k76) → ByteArray → List (K.ty K.bool) → List (K.ty K.bool) → List (K.ty K.bool) → List (K.ty K.bool) → List (K.ty K.bool) → List (K.ty K.bool) → List (K.ty K.bool) → Prop} {R0 : Int → List (K.ty K.bool) → Prop} {R1 : List (K.ty K.bool) → List (K.ty K.bool) → List (K.ty K.bool) → List (K.ty K.bool) → Prop} {again' : List (K.ty K.bool) → Int → Int → Int → ByteArray → List (K.ty k74) → List (K.ty k76) → ByteArray → List (K.ty K.bool) → List (K.ty K.bool) → List (K.ty K.bool) → List (K.ty K.bool) → List (K.ty K.bool) → List (K.ty K.bool) → List (K.ty K.bool) → Prop} {R0' : Int → List (K.ty K.bool) → Prop} {R1' : List (K.ty K.bool) → List (K.ty K.bool) → List (K.ty K.bool) → List (K.ty K.bool) → Prop} (ha : ∀ l1 x3 x13 x14 sh0_0 lh0_1 lh0_2 sh0_3 lh1_0 lh1_1 lh1_2 lh3_0 lh3_1 lh3_2 w4, again l1 x3 x13 x14 sh0_0 lh0_1 lh0_2 sh0_3 lh1_0 lh1_1 lh1_2 lh3_0 lh3_1 lh3_2 w4 → again' l1 x3 x13 x14 sh0_0 lh0_1 lh0_2 sh0_3 lh1_0 lh1_1 lh1_2 lh3_0 lh3_1 lh3_2 w4) (hr0 : ∀ x10 w0, R0 x10 w0 → R0' x10 w0) (hr1 : ∀ lh1_0 lh1_1 lh1_2 w2, R1 lh1_0 lh1_1 lh1_2 w2 → R1' lh1_0 lh1_1 lh1_2 w2) (l1 : List (K.ty K.bool)) (x3 : Int) (x13 : Int) (x14 : Int) (sh0_0 : ByteArray) (lh0_1 : List (K.ty k74)) (lh0_2 : List (K.ty k76)) (sh0_3 : ByteArray) (lh1_0 : List (K.ty K.bool)) (lh1_1 : List (K.ty K.bool)) (lh1_2 : List (K.ty K.bool)) (lh3_0 : List (K.ty K.bool)) (lh3_1 : List (K.ty K.bool)) (lh3_2 : List (K.ty K.bool)) (w4 : List (K.ty K.bool)) :
    t48_0 again R0 R1 l1 x3 x13 x14 sh0_0 lh0_1 lh0_2 sh0_3 lh1_0 lh1_1 lh1_2 lh3_0 lh3_1 lh3_2 w4 → t48_0 again' R0' R1' l1 x3 x13 x14 sh0_0 lh0_1 lh0_2 sh0_3 lh1_0 lh1_1 lh1_2 lh3_0 lh3_1 lh3_2 w4 :=
  brM (andM (id) (brM (hr0 _ _) (brM (hr0 _ _) (brM (hr0 _ _) (brM (andM (id) (ha _ _ _ _ _ _ _ _ _ _ _ _ _ _ _)) (brM (hr0 _ _) (brM (hr0 _ _) (brM (hr0 _ _) (andM (id) (brM (andM (id) (andM (andM (id) (id)) (ha _ _ _ _ _ _ _ _ _ _ _ _ _ _ _))) (andM (id) (andM (andM (id) (id)) (ha _ _ _ _ _ _ _ _ _ _ _ _ _ _ _))))))))))))) (hr1 _ _ _ _)
theorem t48_0_eq (n : Nat) (Q : Ex → St → Prop) (l1 : List (K.ty K.bool)) (x3 : Int) (x13 : Int) (x14 : Int) (sh0_0 : ByteArray) (lh0_1 : List (K.ty k74)) (lh0_2 : List (K.ty k76)) (sh0_3 : ByteArray) (lh1_0 : List (K.ty K.bool)) (lh1_1 : List (K.ty K.bool)) (lh1_2 : List (K.ty K.bool)) (lh3_0 : List (K.ty K.bool)) (lh3_1 : List (K.ty K.bool)) (lh3_2 : List (K.ty K.bool)) (w4 : List (K.ty K.bool)) :
    t48_0 (fun l1 x3 x13 x14 sh0_0 lh0_1 lh0_2 sh0_3 lh1_0 lh1_1 lh1_2 lh3_0 lh3_1 lh3_2 w4 => loopP (awp tt E48 A48 L48_0 0) ([(1 : Nat), (3 : Nat), (4 : Nat), (6 : Nat), (9 : Nat), (11 : Nat), (12 : Nat), (13 : Nat), (14 : Nat)], [(9 : Nat), (11 : Nat), (12 : Nat)], [(8 : Nat), (9 : Nat), (10 : Nat)]) n (S48_0 l1 x3 x13 x14 sh0_0 lh0_1 lh0_2 sh0_3 lh1_0 lh1_1 lh1_2 lh3_0 lh3_1 lh3_2 w4) Q) (fun x10 w0 => Q (Ex.ret) (X48_0_0 x10 w0)) (fun lh1_0 lh1_1 lh1_2 w2 => Q (Ex.exit (nat_lit 0)) (X48_0_1 lh1_0 lh1_1 lh1_2 w2)) l1 x3 x13 x14 sh0_0 lh0_1 lh0_2 sh0_3 lh1_0 lh1_1 lh1_2 lh3_0 lh3_1 lh3_2 w4 = (loopP (awp tt E48 A48 L48_0 0) ([(1 : Nat), (3 : Nat), (4 : Nat), (6 : Nat), (9 : Nat), (11 : Nat), (12 : Nat), (13 : Nat), (14 : Nat)], [(9 : Nat), (11 : Nat), (12 : Nat)], [(8 : Nat), (9 : Nat), (10 : Nat)]) (n + 1) (S48_0 l1 x3 x13 x14 sh0_0 lh0_1 lh0_2 sh0_3 lh1_0 lh1_1 lh1_2 lh3_0 lh3_1 lh3_2 w4) Q) := by kernel_rfl
def G48_0 (R0 : Int → List (K.ty K.bool) → Prop) (R1 : List (K.ty K.bool) → List (K.ty K.bool) → List (K.ty K.bool) → List (K.ty K.bool) → Prop) : Nat → List (K.ty K.bool) → Int → Int → Int → ByteArray → List (K.ty k74) → List (K.ty k76) → ByteArray → List (K.ty K.bool) → List (K.ty K.bool) → List (K.ty K.bool) → List (K.ty K.bool) → List (K.ty K.bool) → List (K.ty K.bool) → List (K.ty K.bool) → Prop
  | 0, _, _, _, _, _, _, _, _, _, _, _, _, _, _, _ => False
  | n + 1, l1, x3, x13, x14, sh0_0, lh0_1, lh0_2, sh0_3, lh1_0, lh1_1, lh1_2, lh3_0, lh3_1, lh3_2, w4 => t48_0 (G48_0 R0 R1 n) R0 R1 l1 x3 x13 x14 sh0_0 lh0_1 lh0_2 sh0_3 lh1_0 lh1_1 lh1_2 lh3_0 lh3_1 lh3_2 w4
theorem T48_0 {R0 : Int → List (K.ty K.bool) → Prop} {R1 : List (K.ty K.bool) → List (K.ty K.bool) → List (K.ty K.bool) → List (K.ty K.bool) → Prop} (Q : Ex → St → Prop) (hr0 : ∀ x10 w0, R0 x10 w0 → Of (Q (Ex.ret) (X48_0_0 x10 w0))) (hr1 : ∀ lh1_0 lh1_1 lh1_2 w2, R1 lh1_0 lh1_1 lh1_2 w2 → Of (Q (Ex.exit (nat_lit 0)) (X48_0_1 lh1_0 lh1_1 lh1_2 w2))) : ∀ (n : Nat) (l1 : List (K.ty K.bool)) (x3 : Int) (x13 : Int) (x14 : Int) (sh0_0 : ByteArray) (lh0_1 : List (K.ty k74)) (lh0_2 : List (K.ty k76)) (sh0_3 : ByteArray) (lh1_0 : List (K.ty K.bool)) (lh1_1 : List (K.ty K.bool)) (lh1_2 : List (K.ty K.bool)) (lh3_0 : List (K.ty K.bool)) (lh3_1 : List (K.ty K.bool)) (lh3_2 : List (K.ty K.bool)) (w4 : List (K.ty K.bool)), G48_0 R0 R1 n l1 x3 x13 x14 sh0_0 lh0_1 lh0_2 sh0_3 lh1_0 lh1_1 lh1_2 lh3_0 lh3_1 lh3_2 w4 → Of (loopP (awp tt E48 A48 L48_0 0) ([(1 : Nat), (3 : Nat), (4 : Nat), (6 : Nat), (9 : Nat), (11 : Nat), (12 : Nat), (13 : Nat), (14 : Nat)], [(9 : Nat), (11 : Nat), (12 : Nat)], [(8 : Nat), (9 : Nat), (10 : Nat)]) n (S48_0 l1 x3 x13 x14 sh0_0 lh0_1 lh0_2 sh0_3 lh1_0 lh1_1 lh1_2 lh3_0 lh3_1 lh3_2 w4) Q) := by
  intro n
  induction n with
  | zero => intro l1 x3 x13 x14 sh0_0 lh0_1 lh0_2 sh0_3 lh1_0 lh1_1 lh1_2 lh3_0 lh3_1 lh3_2 w4 h; exact h.elim
  | succ n ih =>
    intro l1 x3 x13 x14 sh0_0 lh0_1 lh0_2 sh0_3 lh1_0 lh1_1 lh1_2 lh3_0 lh3_1 lh3_2 w4 h
    exact kcO (t48_0_eq n Q l1 x3 x13 x14 sh0_0 lh0_1 lh0_2 sh0_3 lh1_0 lh1_1 lh1_2 lh3_0 lh3_1 lh3_2 w4) (t48_0_mono (fun _ _ _ _ _ _ _ _ _ _ _ _ _ _ _ h => (ih _ _ _ _ _ _ _ _ _ _ _ _ _ _ _ h).out) (fun _ _ h => (hr0 _ _ h).out) (fun _ _ _ _ h => (hr1 _ _ _ _ h).out) l1 x3 x13 x14 sh0_0 lh0_1 lh0_2 sh0_3 lh1_0 lh1_1 lh1_2 lh3_0 lh3_1 lh3_2 w4 h)
def t48 (Q : List V1 → List Ob → Prop) (lp0 : K.ty k45 → K.ty (K.slice (4 : TypeId) K.bool) → K.ty k26 → K.ty (K.int IntKind.i64) → Prop) (p0 : K.ty k45) (p1 : K.ty (K.slice (4 : TypeId) K.bool)) (p2 : K.ty k26) (p3 : K.ty (K.int IntKind.i64)) : Prop :=
  small p2 ∧ lp0 p0 p1 p2 p3
theorem t48_mono {Q : List V1 → List Ob → Prop} {Q' : List V1 → List Ob → Prop} {lp0 : K.ty k45 → K.ty (K.slice (4 : TypeId) K.bool) → K.ty k26 → K.ty (K.int IntKind.i64) → Prop} {lp0' : K.ty k45 → K.ty (K.slice (4 : TypeId) K.bool) → K.ty k26 → K.ty (K.int IntKind.i64) → Prop} (hq : ∀ r h, Q r h → Q' r h) (hlp0 : ∀ p0 p1 p2 p3, lp0 p0 p1 p2 p3 → lp0' p0 p1 p2 p3) (p0 : K.ty k45) (p1 : K.ty (K.slice (4 : TypeId) K.bool)) (p2 : K.ty k26) (p3 : K.ty (K.int IntKind.i64)) :
    t48 Q lp0 p0 p1 p2 p3 → t48 Q' lp0' p0 p1 p2 p3 :=
  andM (id) (hlp0 _ _ _ _)
theorem t48_eq (Q : List V1 → List Ob → Prop) (p0 : K.ty k45) (p1 : K.ty (K.slice (4 : TypeId) K.bool)) (p2 : K.ty k26) (p3 : K.ty (K.int IntKind.i64)) :
    t48 Q (fun p0 p1 p2 p3 => ∃ m, loopP (awp tt E48 A48 L48_0 0) ([(1 : Nat), (3 : Nat), (4 : Nat), (6 : Nat), (9 : Nat), (11 : Nat), (12 : Nat), (13 : Nat), (14 : Nat)], [(9 : Nat), (11 : Nat), (12 : Nat)], [(8 : Nat), (9 : Nat), (10 : Nat)]) m (S48_0 (p1) (p3) ((0 : Int)) ((0 : Int)) (p0.fst) (p0.snd.fst) (p0.snd.snd.fst) (p0.snd.snd.snd) (p2.fst) (p2.snd.fst) (p2.snd.snd) (p2.fst) (p2.snd.fst) (p2.snd.snd) ([])) (blkC (0 : Nat) (seqC (awp tt E48 A48 (Code.b (Code.b (Code.b (Code.b (Code.b (Func.code Try.f48)))))) (0 : Nat)) (topC tt Try.f48 0 Q)))) p0 p1 p2 p3 = (afun tt E48 A48 Try.f48 (I48 p0 p1 p2 p3) [] Q) := by kernel_rfl
def t48c0x1 (Q : List V1 → List Ob → Prop) (p0 : K.ty k45) (p1 : K.ty (K.slice (4 : TypeId) K.bool)) (p2 : K.ty k26) (p3 : K.ty (K.int IntKind.i64)) (lh1_0e4 : List (K.ty K.bool)) (lh1_1e4 : List (K.ty K.bool)) (lh1_2e4 : List (K.ty K.bool)) (w2e4 : List (K.ty K.bool)) : Prop :=
  Q [V1.one (Lf.own (0 : Nat)), V1.agg [Lf.sl (4 : TypeId) K.bool lh1_0e4, Lf.sl (4 : TypeId) K.bool lh1_1e4, Lf.sl (4 : TypeId) K.bool lh1_2e4], V1.one (Lf.int IntKind.i64 (0 : Int))] [Ob.row (4 : TypeId) K.bool w2e4]
theorem t48c0x1_mono {Q : List V1 → List Ob → Prop} {Q' : List V1 → List Ob → Prop} (hq : ∀ r h, Q r h → Q' r h) (p0 : K.ty k45) (p1 : K.ty (K.slice (4 : TypeId) K.bool)) (p2 : K.ty k26) (p3 : K.ty (K.int IntKind.i64)) (lh1_0e4 : List (K.ty K.bool)) (lh1_1e4 : List (K.ty K.bool)) (lh1_2e4 : List (K.ty K.bool)) (w2e4 : List (K.ty K.bool)) :
    t48c0x1 Q p0 p1 p2 p3 lh1_0e4 lh1_1e4 lh1_2e4 w2e4 → t48c0x1 Q' p0 p1 p2 p3 lh1_0e4 lh1_1e4 lh1_2e4 w2e4 :=
  hq _ _
theorem t48c0x1_eq (Q : List V1 → List Ob → Prop) (p0 : K.ty k45) (p1 : K.ty (K.slice (4 : TypeId) K.bool)) (p2 : K.ty k26) (p3 : K.ty (K.int IntKind.i64)) (lh1_0e4 : List (K.ty K.bool)) (lh1_1e4 : List (K.ty K.bool)) (lh1_2e4 : List (K.ty K.bool)) (w2e4 : List (K.ty K.bool)) :
    t48c0x1 Q p0 p1 p2 p3 lh1_0e4 lh1_1e4 lh1_2e4 w2e4 = ((blkC (0 : Nat) (seqC (awp tt E48 A48 (Code.b (Code.b (Code.b (Code.b (Code.b (Func.code Try.f48)))))) (0 : Nat)) (topC tt Try.f48 0 Q))) (Ex.exit (nat_lit 0)) (X48_0_1 lh1_0e4 lh1_1e4 lh1_2e4 w2e4)) := by kernel_rfl
def t48c0x0 (Q : List V1 → List Ob → Prop) (p0 : K.ty k45) (p1 : K.ty (K.slice (4 : TypeId) K.bool)) (p2 : K.ty k26) (p3 : K.ty (K.int IntKind.i64)) (x10e4 : Int) (w0e4 : List (K.ty K.bool)) : Prop :=
  Q [V1.one (Lf.own (0 : Nat)), V1.agg [Lf.nils, Lf.nils, Lf.nils], V1.one (Lf.int IntKind.i64 x10e4)] [Ob.row (4 : TypeId) K.bool w0e4]
theorem t48c0x0_mono {Q : List V1 → List Ob → Prop} {Q' : List V1 → List Ob → Prop} (hq : ∀ r h, Q r h → Q' r h) (p0 : K.ty k45) (p1 : K.ty (K.slice (4 : TypeId) K.bool)) (p2 : K.ty k26) (p3 : K.ty (K.int IntKind.i64)) (x10e4 : Int) (w0e4 : List (K.ty K.bool)) :
    t48c0x0 Q p0 p1 p2 p3 x10e4 w0e4 → t48c0x0 Q' p0 p1 p2 p3 x10e4 w0e4 :=
  hq _ _
theorem t48c0x0_eq (Q : List V1 → List Ob → Prop) (p0 : K.ty k45) (p1 : K.ty (K.slice (4 : TypeId) K.bool)) (p2 : K.ty k26) (p3 : K.ty (K.int IntKind.i64)) (x10e4 : Int) (w0e4 : List (K.ty K.bool)) :
    t48c0x0 Q p0 p1 p2 p3 x10e4 w0e4 = ((blkC (0 : Nat) (seqC (awp tt E48 A48 (Code.b (Code.b (Code.b (Code.b (Code.b (Func.code Try.f48)))))) (0 : Nat)) (topC tt Try.f48 0 Q))) (Ex.ret) (X48_0_0 x10e4 w0e4)) := by kernel_rfl
def H48 (Q : List V1 → List Ob → Prop) (p0 : K.ty k45) (p1 : K.ty (K.slice (4 : TypeId) K.bool)) (p2 : K.ty k26) (p3 : K.ty (K.int IntKind.i64)) : Prop := t48 Q (fun p0 p1 p2 p3 => ∃ m, G48_0 (fun x10e4 w0e4 => t48c0x0 Q p0 p1 p2 p3 x10e4 w0e4) (fun lh1_0e4 lh1_1e4 lh1_2e4 w2e4 => t48c0x1 Q p0 p1 p2 p3 lh1_0e4 lh1_1e4 lh1_2e4 w2e4) m (p1) (p3) ((0 : Int)) ((0 : Int)) (p0.fst) (p0.snd.fst) (p0.snd.snd.fst) (p0.snd.snd.snd) (p2.fst) (p2.snd.fst) (p2.snd.snd) (p2.fst) (p2.snd.fst) (p2.snd.snd) ([])) p0 p1 p2 p3
theorem ok48 (Q : List V1 → List Ob → Prop) (p0 : K.ty k45) (p1 : K.ty (K.slice (4 : TypeId) K.bool)) (p2 : K.ty k26) (p3 : K.ty (K.int IntKind.i64)) (h : H48 Q p0 p1 p2 p3) : Of (afun tt E48 A48 Try.f48 (I48 p0 p1 p2 p3) [] Q) :=
  kcO (t48_eq Q p0 p1 p2 p3) (t48_mono (fun _ _ h => h) (fun p0 p1 p2 p3 ⟨m, h⟩ => ⟨m, (T48_0 _ (fun x10e4 w0e4 h => kcO (t48c0x0_eq _ _ _ _ _ _ _) (t48c0x0_mono (fun _ _ h => h) _ _ _ _ _ _ h)) (fun lh1_0e4 lh1_1e4 lh1_2e4 w2e4 h => kcO (t48c0x1_eq _ _ _ _ _ _ _ _ _) (t48c0x1_mono (fun _ _ h => h) _ _ _ _ _ _ _ _ h)) m _ _ _ _ _ _ _ _ _ _ _ _ _ _ _ h).out⟩) p0 p1 p2 p3 h)
theorem env48 : EnvOk Try.prog E48 := .cons spec10s (by kernel_rfl) <| .cons spec65 (by kernel_rfl) <| .cons spec66 (by kernel_rfl) <| .nil
theorem cond_low (k : Int) (v was : Bool) (h0 : decide (k < 0) = false) (h2 : decide (k < 2) = true) : conducting k v was = (v == (k == 0)) ∧ ∀ c : Con, c.1 = k → isEdge c = false := by
  have h0 : ¬ k < 0 := of_decide_eq_false h0
  have h2 : k < 2 := of_decide_eq_true h2
  have hk : k = 0 ∨ k = 1 := by omega
  refine ⟨?_, fun c hc => ?_⟩
  · rcases hk with rfl | rfl <;> cases v <;> rfl
  · unfold isEdge
    rw [hc]
    rcases hk with rfl | rfl <;> rfl
theorem cond_high (k : Int) (v was : Bool) (h3 : decide (k > 3) = false) (h2 : decide (k < 2) = false) : ((v != was) = true → conducting k v was = (v == (k == 2))) ∧ ((v != was) = false → conducting k v was = false) ∧ ∀ c : Con, c.1 = k → isEdge c = true := by
  have h3 : ¬ k > 3 := of_decide_eq_false h3
  have h2 : ¬ k < 2 := of_decide_eq_false h2
  have hk : k = 2 ∨ k = 3 := by omega
  refine ⟨?_, ?_, fun c hc => ?_⟩
  · rcases hk with rfl | rfl <;> cases v <;> cases was <;> decide
  · rcases hk with rfl | rfl <;> cases v <;> cases was <;> decide
  · unfold isEdge
    rw [hc]
    rcases hk with rfl | rfl <;> rfl
theorem getE_nat (l : List Bool) (i : Nat) : getE K.bool l (i : Int) = l.getD i false := by
  unfold getE; rw [Int.toNat_natCast]; rfl
theorem loop48 (inp : List Bool) (st : Sta) (slot : Int) (cs : List Con) (x1 : ByteArray) (x3 : List Coi) (x4 : ByteArray) (R0 : Int → List Bool → Prop) (R1 : List Bool → List Bool → List Bool → List Bool → Prop) (hl : cs.length ≤ 1000000) (hE : st.2.2.length ≤ 1000000000000) :
    ∀ n k (i cnt : Nat) (e on : List Bool), k < n → i + k = cs.length → on.length = i → e.length = st.2.2.length → cnt ≤ i → (cnt = 0 ∨ 0 ≤ slot) → (∀ j : Nat, slot + cnt ≤ (j : Int) → e.getD j false = st.2.2.getD j false) →
      ((conGo inp st (cs.drop i) (slot + cnt) e on).2.2 ≠ 0 → R0 (conGo inp st (cs.drop i) (slot + cnt) e on).2.2 []) →
      ((conGo inp st (cs.drop i) (slot + cnt) e on).2.2 = 0 → R1 st.1 st.2.1 (conGo inp st (cs.drop i) (slot + cnt) e on).2.1 (conGo inp st (cs.drop i) (slot + cnt) e on).1) →
      G48_0 R0 R1 n inp slot cnt i x1 cs x3 x4 st.1 st.2.1 st.2.2 st.1 st.2.1 e on := by
  intro n
  induction n with
  | zero => intro k i cnt e on h; omega
  | succ n ih =>
    intro k i cnt e on hk hi hon he hcnt hsl hsame h0 h1
    refine brP_intro (fun d => ?_) (fun d => ?_)
    · have d : i < cs.length := by simpa using d
      cases k with
      | zero => omega
      | succ k =>
        rw [getE_cons k74 cs i d] at h0 h1
        simp only [conGo] at h0 h1
        have hw : IntKind.i64.wrap ((i : Int) + 1) = ((i + 1 : Nat) : Int) := by rw [wrap_in (by omega) (by omega)]; omega
        refine ⟨⟨by omega, by omega⟩, brP_intro (fun a => ?_) (fun a => brP_intro (fun b => ?_) (fun b => ?_))⟩
        · simp only [a, cond_true] at h0; exact h0 (by decide)
        · have b1 : decide ((getE k74 cs i).1 ≥ 4) = true := by
            have b : (getE k74 cs i).1 > (3 : Int) := of_decide_eq_true b
            exact decide_eq_true (show (getE k74 cs i).1 ≥ (4 : Int) from b)
          simp only [a, b1, cond_true, cond_false] at h0; exact h0 (by decide)
        have b1 : decide ((getE k74 cs i).1 ≥ 4) = false := by
          have b : ¬ (getE k74 cs i).1 > (3 : Int) := of_decide_eq_false b
          exact decide_eq_false (fun h : (getE k74 cs i).1 ≥ (4 : Int) => b h)
        simp only [a, b1, cond_false] at h0 h1
        rw [hw]
        refine brP_intro (fun c => ?_) (fun c => ?_)
        · have c : ((readS inp st (getE k74 cs i).2.1).2 != 0) = true := c
          simp only [c, cond_true] at h0; exact h0 (by simpa using c)
        have c : ((readS inp st (getE k74 cs i).2.1).2 != 0) = false := c
        simp only [c, cond_false] at h0 h1
        have hroom : ∀ v : Bool, room tt 4 (List.length on + List.length (List.set (List.replicate 1 (K.dflt K.bool)) 0 v)) := fun v => room4 (by rw [List.length_set, List.length_replicate]; omega)
        refine brP_intro (fun f => ⟨hroom _, ?_⟩) (fun f => ?_)
        · obtain ⟨g1, g2⟩ := cond_low (getE k74 cs i).1 (readS inp st (getE k74 cs i).2.1).1 false a f
          rw [g2 _ rfl, g1] at h0 h1
          exact ih k (i + 1) cnt e (on ++ [(readS inp st (getE k74 cs i).2.1).1 == ((getE k74 cs i).1 == 0)]) (by omega) (by omega) (by rw [List.length_append, List.length_singleton, hon]) he (by omega) hsl hsame h0 h1
        · have hed := (cond_high (getE k74 cs i).1 false false b f).2.2 (getE k74 cs i) rfl
          rw [hed] at h0 h1
          simp only [cond_true] at h0 h1
          have low : slot < 0 → R0 3 [] := fun hlt => by
            have : cnt = 0 := by omega
            rw [decide_eq_true (show slot + (cnt : Int) < 0 by omega)] at h0
            exact h0 (by simp)
          have high : ¬ slot < 0 → slot + (cnt : Int) ≥ (e.length : Int) → R0 3 [] := fun hlt hge => by
            rw [decide_eq_false (show ¬ slot + (cnt : Int) < 0 by omega), decide_eq_true hge] at h0
            exact h0 (by simp)
          refine brP_intro (fun g => low (of_decide_eq_true g)) (fun g => brP_intro (fun j => ?_) (fun j => brP_intro (fun u => ?_) (fun u => ?_)))
          · have g := of_decide_eq_false g
            have j : slot ≥ (st.2.2.length : Int) := of_decide_eq_true j
            exact high g (by omega)
          · have g := of_decide_eq_false g
            have j : ¬ slot ≥ (st.2.2.length : Int) := of_decide_eq_false j
            have u : (cnt : Int) ≥ IntKind.i64.wrap ((st.2.2.length : Int) - slot) := of_decide_eq_true u
            rw [wrap_in (by omega) (by omega)] at u
            exact high g (by omega)
          have g := of_decide_eq_false g
          have j : ¬ slot ≥ (st.2.2.length : Int) := of_decide_eq_false j
          have u : ¬ (cnt : Int) ≥ IntKind.i64.wrap ((st.2.2.length : Int) - slot) := of_decide_eq_false u
          rw [wrap_in (by omega) (by omega)] at u
          have hws : IntKind.i64.wrap (slot + (cnt : Int)) = slot + (cnt : Int) := wrap_in (by omega) (by omega)
          have hwc : IntKind.i64.wrap ((cnt : Int) + 1) = ((cnt + 1 : Nat) : Int) := by rw [wrap_in (by omega) (by omega)]; omega
          rw [decide_eq_false (show ¬ slot + (cnt : Int) < 0 by omega), decide_eq_false (show ¬ slot + (cnt : Int) ≥ (e.length : Int) by omega)] at h0 h1
          simp only [cond_false] at h0 h1
          obtain ⟨p, hp⟩ : ∃ p : Nat, slot + (cnt : Int) = (p : Int) := ⟨(slot + (cnt : Int)).toNat, by omega⟩
          have hwas : getE K.bool e (slot + (cnt : Int)) = getE K.bool st.2.2 (slot + (cnt : Int)) := by
            rw [hp, getE_nat, getE_nat]
            exact hsame p (by omega)
          rw [hwas] at h0 h1
          rw [hws, hwc]
          have hb1 : bound (slot + (cnt : Int)) st.2.2.length := ⟨by omega, by omega⟩
          have hb2 : List.length e ≤ 1000000000000 ∧ bound (slot + (cnt : Int)) e.length := ⟨by omega, by omega, by omega⟩
          have hnx : slot + (cnt : Int) + 1 = slot + ((cnt + 1 : Nat) : Int) := by omega
          have step : ∀ v : Bool, conducting (getE k74 cs i).1 (readS inp st (getE k74 cs i).2.1).1 (getE K.bool st.2.2 (slot + (cnt : Int))) = v →
              G48_0 R0 R1 n inp slot ((cnt + 1 : Nat) : Int) ((i + 1 : Nat) : Int) x1 cs x3 x4 st.1 st.2.1 st.2.2 st.1 st.2.1 (e.set (slot + (cnt : Int)).toNat (readS inp st (getE k74 cs i).2.1).1) (on ++ [v]) := fun v hv => by
            rw [hv, hnx] at h0 h1
            refine ih k (i + 1) (cnt + 1) _ (on ++ [v]) (by omega) (by omega) (by rw [List.length_append, List.length_singleton, hon]) (by rw [List.length_set]; exact he) (by omega) (by omega) (fun q hq => ?_) h0 h1
            rw [List.getD_eq_getElem?_getD, List.getElem?_set_ne (by omega), ← List.getD_eq_getElem?_getD]
            exact hsame q (by omega)
          obtain ⟨k1, k2, _⟩ := cond_high (getE k74 cs i).1 (readS inp st (getE k74 cs i).2.1).1 (getE K.bool st.2.2 (slot + (cnt : Int))) b f
          exact ⟨hb1, brP_intro (fun z => ⟨hroom _, hb2, step _ (k1 z)⟩) (fun z => ⟨hroom _, hb2, step _ (k2 z)⟩)⟩
    · have d : ¬ i < cs.length := by simpa using d
      obtain rfl : k = 0 := by omega
      rw [List.drop_of_length_le (by omega)] at h1
      have := h1 rfl
      simpa [conGo] using this
theorem spec48 : SpecOk Try.prog 48 sp48 := S4.okS tt_ok mixed [kbs, k26, ki] env48 Try.func48 fun (r : Rung) (inp : List Bool) (st : Sta) (slot : Int) Q h => ok48 _ r inp st slot <| by
  obtain ⟨⟨hs, hl⟩, h⟩ := h
  unfold contactsR at h
  have e0 : slot + ((0 : Nat) : Int) = slot := by omega
  have hlen := loop48 inp st slot r.contacts r.1 r.2.2.1 r.2.2.2 (fun x w => t48c0x0 (SQ [kbs, k26, ki] Q) r inp st slot x w) (fun a b c d => t48c0x1 (SQ [kbs, k26, ki] Q) r inp st slot a b c d) hl hs.2.2 (r.contacts.length + 1) r.contacts.length 0 0 st.2.2 []
    (by omega) (by omega) rfl rfl (by omega) (.inl rfl) (fun _ _ => rfl) (fun h0 => ?_) (fun h0 => ?_)
  · exact ⟨hs, _, hlen⟩
  · rw [List.drop_zero, e0] at h0 ⊢
    have e : ((conGo inp st r.contacts slot st.2.2 []).2.2 != 0) = true := by simpa using h0
    simp only [e, cond_true] at h
    exact h
  · rw [List.drop_zero, e0] at h0 ⊢
    have e : ((conGo inp st r.contacts slot st.2.2 []).2.2 != 0) = false := by simpa using h0
    simp only [e, cond_false] at h
    exact h
end Go.AM
namespace Go.AM
open Go.Proofs
def hasB (w : List ByteArray) (x : ByteArray) : Bool := w.any fun y => decide (y = x)
theorem hasB_iff {w : List ByteArray} {x : ByteArray} : hasB w x = true ↔ x ∈ w := by simp [hasB]
/-- The reference's round over the contacts. -/
def satIn : List Con → List Bool → List ByteArray → List ByteArray
  | [], _, w => w
  | _ :: _, [], w => w
  | c :: cs, o :: on, w => satIn cs on (bif o && (hasB w c.2.2.1 && !hasB w c.2.2.2) then w ++ [c.2.2.2] else w)
def satGo (cs : List Con) (on : List Bool) : Nat → List ByteArray → List ByteArray
  | 0, w => w
  | n + 1, w => satGo cs on n (satIn cs on w)
/-- What a node reaches. -/
inductive Rch (z : List (Con × Bool)) : ByteArray → Prop
  | start : Rch z lnode
  | step {c : Con} : (c, true) ∈ z → Rch z c.2.2.1 → Rch z c.2.2.2
def closedS (z : List (Con × Bool)) (w : List ByteArray) : Prop := ∀ c : Con, (c, true) ∈ z → c.2.2.1 ∈ w → c.2.2.2 ∈ w
theorem sat_sound (z : List (Con × Bool)) : ∀ (cs : List Con) (on : List Bool) (w : List ByteArray), (∀ p ∈ cs.zip on, p ∈ z) → (∀ x ∈ w, Rch z x) → ∀ x ∈ satIn cs on w, Rch z x
  | [], _, w, _, h => h
  | _ :: _, [], w, _, h => h
  | c :: cs, o :: on, w, hz, h => by
    simp only [satIn]
    refine sat_sound z cs on _ (fun p hp => hz p (by simp [hp])) ?_
    cases hb : (o && (hasB w c.2.2.1 && !hasB w c.2.2.2)) with
    | false => exact h
    | true =>
      simp only [Bool.and_eq_true] at hb
      intro x hx
      rcases List.mem_append.1 hx with hx | hx
      · exact h x hx
      · rw [List.mem_singleton.1 hx]
        refine Rch.step (hz _ ?_) (h _ (hasB_iff.1 hb.2.1))
        rw [hb.1]; simp
theorem sat_mono : ∀ (cs : List Con) (on : List Bool) (w : List ByteArray), w.length ≤ (satIn cs on w).length ∧ ∀ x ∈ w, x ∈ satIn cs on w
  | [], _, w => ⟨Nat.le_refl _, fun _ h => h⟩
  | _ :: _, [], w => ⟨Nat.le_refl _, fun _ h => h⟩
  | c :: cs, o :: on, w => by
    simp only [satIn]
    cases (o && (hasB w c.2.2.1 && !hasB w c.2.2.2)) with
    | false => exact sat_mono cs on w
    | true =>
      obtain ⟨h1, h2⟩ := sat_mono cs on (w ++ [c.2.2.2])
      rw [List.length_append, List.length_singleton] at h1
      exact ⟨by simp only [cond_true]; omega, fun x hx => h2 x (by simp [hx])⟩
theorem sat_fix : ∀ (cs : List Con) (on : List Bool) (w : List ByteArray), (satIn cs on w).length = w.length → satIn cs on w = w ∧ closedS (cs.zip on) w
  | [], _, w, _ => ⟨rfl, fun c hc => by simp at hc⟩
  | _ :: _, [], w, _ => ⟨rfl, fun c hc => by simp at hc⟩
  | c :: cs, o :: on, w, h => by
    simp only [satIn] at h ⊢
    cases hb : (o && (hasB w c.2.2.1 && !hasB w c.2.2.2)) with
    | true =>
      rw [hb] at h
      simp only [cond_true] at h
      have h1 := (sat_mono cs on (w ++ [c.2.2.2])).1
      rw [List.length_append, List.length_singleton] at h1
      omega
    | false =>
      rw [hb] at h
      simp only [cond_false] at h ⊢
      obtain ⟨h1, h2⟩ := sat_fix cs on w h
      refine ⟨h1, fun d hd hf => ?_⟩
      rw [List.zip_cons_cons] at hd
      rcases List.mem_cons.1 hd with hd | hd
      · cases hd
        have hf := hasB_iff.2 hf
        rw [hf] at hb
        cases ht : hasB w c.2.2.2 with
        | true => exact hasB_iff.1 ht
        | false => rw [ht] at hb; simp at hb
      · exact h2 d hd hf
def mu2 (cs : List Con) (w : List ByteArray) : Nat := cs.countP fun c => !hasB w c.2.2.2
theorem hasB_append (w : List ByteArray) (x y : ByteArray) : hasB (w ++ [x]) y = (hasB w y || decide (x = y)) := by simp [hasB]
theorem mu2_le (cs : List Con) (w : List ByteArray) (x : ByteArray) : mu2 cs (w ++ [x]) ≤ mu2 cs w :=
  List.countP_mono_left fun c _ h => by
    rw [hasB_append] at h
    simp at h ⊢
    exact h.1
theorem mu2_add : ∀ {cs : List Con} {c : Con} {w : List ByteArray}, c ∈ cs → hasB w c.2.2.2 = false → mu2 cs (w ++ [c.2.2.2]) + 1 ≤ mu2 cs w
  | [], _, _, h, _ => by simp at h
  | d :: r, c, w, h, hf => by
    have hm := mu2_le r w c.2.2.2
    unfold mu2 at hm ⊢
    simp only [List.countP_cons]
    rcases List.mem_cons.1 h with rfl | h
    · have e1 : hasB (w ++ [c.2.2.2]) c.2.2.2 = true := by rw [hasB_append]; simp
      simp [e1, hf]
      exact hm
    · have ih := mu2_add h hf
      unfold mu2 at ih
      have e1 : (if (!hasB (w ++ [c.2.2.2]) d.2.2.2) = true then 1 else 0) ≤ (if (!hasB w d.2.2.2) = true then 1 else 0) := by
        rw [hasB_append]
        cases hasB w d.2.2.2 <;> simp
        split <;> omega
      omega
theorem sat_mu (all : List Con) : ∀ (cs : List Con) (on : List Bool) (w : List ByteArray), (∀ c ∈ cs, c ∈ all) → (satIn cs on w).length + mu2 all (satIn cs on w) ≤ w.length + mu2 all w
  | [], _, _, _ => Nat.le_refl _
  | _ :: _, [], _, _ => Nat.le_refl _
  | c :: cs, o :: on, w, h => by
    simp only [satIn]
    cases hb : (o && (hasB w c.2.2.1 && !hasB w c.2.2.2)) with
    | false => exact sat_mu all cs on w fun d hd => h d (by simp [hd])
    | true =>
      have hf : hasB w c.2.2.2 = false := by
        simp only [Bool.and_eq_true, Bool.not_eq_true'] at hb
        exact hb.2.2
      have h1 := sat_mu all cs on (w ++ [c.2.2.2]) fun d hd => h d (by simp [hd])
      have h2 := mu2_add (h c (by simp)) hf
      simp only [cond_true]
      rw [List.length_append, List.length_singleton] at h1
      omega
theorem satGo_fix {cs : List Con} {on : List Bool} {w : List ByteArray} (h : satIn cs on w = w) : ∀ n, satGo cs on n w = w
  | 0 => rfl
  | n + 1 => by simp only [satGo]; rw [h]; exact satGo_fix h n
theorem satGo_closed (cs : List Con) (on : List Bool) : ∀ (k : Nat) (w : List ByteArray), mu2 cs w < k → closedS (cs.zip on) (satGo cs on k w)
  | 0, w, h => by omega
  | k + 1, w, h => by
    simp only [satGo]
    by_cases e : (satIn cs on w).length = w.length
    · obtain ⟨h1, h2⟩ := sat_fix cs on w e
      rw [h1, satGo_fix h1]
      exact h2
    · have h1 := (sat_mono cs on w).1
      have h2 := sat_mu cs cs on w fun _ h => h
      exact satGo_closed cs on k _ (by omega)
theorem satGo_sound (cs : List Con) (on : List Bool) : ∀ (k : Nat) (w : List ByteArray), (∀ x ∈ w, Rch (cs.zip on) x) → ∀ x ∈ satGo cs on k w, Rch (cs.zip on) x
  | 0, _, h => h
  | k + 1, w, h => satGo_sound cs on k _ (sat_sound _ cs on w (fun _ h => h) h)
theorem satGo_keep (cs : List Con) (on : List Bool) : ∀ (k : Nat) (w : List ByteArray), ∀ x ∈ w, x ∈ satGo cs on k w
  | 0, _, _, h => h
  | k + 1, w, x, h => satGo_keep cs on k _ x ((sat_mono cs on w).2 x h)
theorem rch_mem {z : List (Con × Bool)} {w : List ByteArray} (hc : closedS z w) (hl : lnode ∈ w) {x : ByteArray} (h : Rch z x) : x ∈ w := by
  induction h with
  | start => exact hl
  | step hz _ ih => exact hc _ hz ih
/-- The reference's answer. -/
theorem satGo_iff (cs : List Con) (on : List Bool) {k : Nat} (hk : cs.length < k) (x : ByteArray) : hasB (satGo cs on k [lnode]) x = true ↔ Rch (cs.zip on) x := by
  rw [hasB_iff]
  have hm : mu2 cs [lnode] ≤ cs.length := List.countP_le_length
  exact ⟨satGo_sound cs on k _ (fun y hy => by rw [List.mem_singleton.1 hy]; exact .start) x, rch_mem (satGo_closed cs on k _ (by omega)) (satGo_keep cs on k _ _ (by simp))⟩
/-! the program's search -/
theorem reach_props (x : ByteArray) : ∀ (cs : List Con) (on : List Bool) (todo : List ByteArray) (live : Live),
    (∀ y, mget live y = true → mget (reachIn x cs on (todo, live)).2 y = true) ∧
    (∀ y, mget (reachIn x cs on (todo, live)).2 y = true → mget live y = true ∨ (y ∈ (reachIn x cs on (todo, live)).1 ∧ ∃ c : Con, (c, true) ∈ cs.zip on ∧ c.2.2.1 = x ∧ c.2.2.2 = y)) ∧
    (∀ y ∈ todo, y ∈ (reachIn x cs on (todo, live)).1) ∧
    (∀ y ∈ (reachIn x cs on (todo, live)).1, y ∈ todo ∨ mget (reachIn x cs on (todo, live)).2 y = true) ∧
    (∀ c : Con, (c, true) ∈ cs.zip on → c.2.2.1 = x → mget (reachIn x cs on (todo, live)).2 c.2.2.2 = true)
  | [], _, todo, live => ⟨fun _ h => h, fun _ h => .inl h, fun _ h => h, fun _ h => .inl h, fun c hc => by simp at hc⟩
  | _ :: _, [], todo, live => ⟨fun _ h => h, fun _ h => .inl h, fun _ h => h, fun _ h => .inl h, fun c hc => by simp at hc⟩
  | c :: cs, o :: on, todo, live => by
    simp only [reachIn]
    cases hb : (o && (decide (c.2.2.1 = x) && !mget live c.2.2.2)) with
    | false =>
      obtain ⟨p1, p2, p3, p4, p5⟩ := reach_props x cs on todo live
      simp only [cond_false]
      refine ⟨p1, fun y hy => ?_, p3, p4, fun d hd hf => ?_⟩
      · rcases p2 y hy with h | ⟨h1, d, h2, h3⟩
        · exact .inl h
        · exact .inr ⟨h1, d, by simp [h2], h3⟩
      · rw [List.zip_cons_cons] at hd
        rcases List.mem_cons.1 hd with hd | hd
        · cases hd
          rw [decide_eq_true hf] at hb
          exact p1 _ (by simpa using hb)
        · exact p5 d hd hf
    | true =>
      obtain ⟨p1, p2, p3, p4, p5⟩ := reach_props x cs on (todo ++ [c.2.2.2]) (mset live c.2.2.2 true)
      simp only [cond_true]
      simp only [Bool.and_eq_true, decide_eq_true_eq] at hb
      have hc1 : mget (mset live c.2.2.2 true) c.2.2.2 = true := by rw [mget_mset]; simp
      refine ⟨fun y hy => p1 y (by rw [mget_mset, hy]; simp), fun y hy => ?_, fun y hy => p3 y (by simp [hy]), fun y hy => ?_, fun d hd hf => ?_⟩
      · rcases p2 y hy with h | ⟨h1, d, h2, h3⟩
        · rw [mget_mset] at h
          by_cases e : y = c.2.2.2
          · refine .inr ⟨p3 y (by rw [e]; simp), c, ?_, hb.2.1, e.symm⟩
            rw [hb.1]; simp
          · rw [decide_eq_false e, Bool.false_or] at h
            exact .inl h
        · exact .inr ⟨h1, d, by simp [h2], h3⟩
      · rcases p4 y hy with h | h
        · rcases List.mem_append.1 h with h | h
          · exact .inl h
          · rw [List.mem_singleton.1 h]; exact .inr (p1 _ hc1)
        · exact .inr h
      · rw [List.zip_cons_cons] at hd
        rcases List.mem_cons.1 hd with hd | hd
        · cases hd
          exact p1 _ hc1
        · exact p5 d hd hf
theorem reachGo_iff (cs : List Con) (on : List Bool) : ∀ (n : Nat) (todo : List ByteArray) (live : Live), todo.length + mu cs live < n →
    (∀ y, mget live y = true → Rch (cs.zip on) y) → (∀ y ∈ todo, mget live y = true) → (∀ y, mget live y = true → y ∈ todo ∨ ∀ c : Con, (c, true) ∈ cs.zip on → c.2.2.1 = y → mget live c.2.2.2 = true) → mget live lnode = true →
    ∀ x, mget (reachGo cs on n todo live) x = true ↔ Rch (cs.zip on) x
  | 0, _, _, h, _, _, _, _ => by omega
  | n + 1, [], live, _, h1, h2, h3, h4 => fun x => by
    simp only [reachGo]
    refine ⟨h1 x, fun h => ?_⟩
    induction h with
    | start => exact h4
    | step hz _ ih =>
      rcases h3 _ ih with h | h
      · cases h
      · exact h _ hz rfl
  | n + 1, t :: todo, live, hn, h1, h2, h3, h4 => fun x => by
    simp only [reachGo]
    obtain ⟨p1, p2, p3, p4, p5⟩ := reach_props t cs on todo live
    have hm := reachIn_mu cs t cs on todo live fun _ h => h
    rw [List.length_cons] at hn
    refine reachGo_iff cs on n _ _ (by omega) (fun y hy => ?_) (fun y hy => ?_) (fun y hy => ?_) (p1 _ h4) x
    · rcases p2 y hy with h | ⟨_, c, hc, hf, ht⟩
      · exact h1 y h
      · rw [← ht]
        exact .step hc (by rw [hf]; exact h1 t (h2 t (by simp)))
    · rcases p4 y hy with h | h
      · exact p1 y (h2 y (by simp [h]))
      · exact h
    · rcases p2 y hy with h | ⟨h, _⟩
      · rcases h3 y h with h | h
        · rcases List.mem_cons.1 h with rfl | h
          · exact .inr p5
          · exact .inl (p3 y h)
        · exact .inr fun c hc hf => p1 _ (h c hc hf)
      · exact .inl h
/-- The program's answer is the reference's. -/
theorem conducts_eq {r : Rung} {on : List Bool} (h : on.length = r.contacts.length) : conductsR r on = (hasB (satGo r.contacts on (on.length + 1) [lnode]) rnode, 0) := by
  unfold conductsR
  rw [decide_eq_true h]
  simp only [cond_true]
  congr 1
  have hl : ∀ y, mget [(lnode, true)] y = decide (lnode = y) := fun y => by
    simp only [mget, beqB]
    by_cases e : y = lnode
    · subst e; simp
    · rw [decide_eq_false e, decide_eq_false fun h => e h.symm]; rfl
  have hmu : mu r.contacts [(lnode, true)] ≤ r.contacts.length := List.countP_le_length
  have h1 := reachGo_iff r.contacts on (r.contacts.length + 2) [lnode] [(lnode, true)] (by rw [List.length_singleton]; omega) (fun y hy => by rw [hl] at hy; rw [← of_decide_eq_true hy]; exact .start) (fun y hy => by rw [List.mem_singleton.1 hy, hl]; simp)
    (fun y hy => by rw [hl] at hy; rw [← of_decide_eq_true hy]; exact .inl (by simp)) (by rw [hl]; simp) rnode
  have h2 := satGo_iff r.contacts on (k := on.length + 1) (by omega) rnode
  rw [Bool.eq_iff_iff, h1, h2]
end Go.AM
namespace Go.AM
open Go.Proofs
-- f49 "busbar/busbarref16.Conducts" ['46', '25'] -> ['4', '3']
def A49 : Ann := [(0, [1, 2, 6, 7], [6], [4, 5]), (2, [1, 2, 6, 7, 8], [1, 2, 6, 7], [4, 5]), (4, [1, 2, 6, 7, 8, 9, 10, 11], [1, 2, 6, 7, 8, 9, 10], [4, 5]), (6, [6, 12], [], [4, 5])]
def E49 : Env := []
def I49 (p0 : (k45 : K).ty) (p1 : ((.slice 4 .bool) : K).ty) : List V1 := [nfK k45 p0, nfK (.slice 4 .bool) p1]
noncomputable def L49_0 : Code := Code.a (Code.a (Code.b (Code.a (Code.b (Code.b (Code.b (Func.code Try.f49)))))))
def S49_0 (l1 : List (K.ty K.bool)) (x7 : Int) (sh0_0 : ByteArray) (lh0_1 : List (K.ty k74)) (lh0_2 : List (K.ty k76)) (sh0_3 : ByteArray) (w1 : List (K.ty ((9 : TypeId), K.str).snd)) : St := sp (90 : Nat) [((1 : Nat), V.v (V1.one (Lf.sl (4 : TypeId) K.bool l1))), ((2 : Nat), V.v (V1.one (Lf.ptr (nat_lit 0) (nat_lit 0)))), ((6 : Nat), V.v (V1.one (Lf.own (nat_lit 1)))), ((7 : Nat), V.v (V1.one (Lf.int IntKind.i64 x7)))] [Ob.box (46 : Nat) [Lf.str sh0_0, Lf.sl (75 : TypeId) k74 lh0_1, Lf.sl (77 : TypeId) k76 lh0_2, Lf.str sh0_3], Ob.row (9 : TypeId) K.str w1]
def X49_0_0 (w0 : List (K.ty K.str)) : St := sp (90 : Nat) [((6 : Nat), V.v (V1.one (Lf.own (nat_lit 0))))] [Ob.row (9 : TypeId) K.str w0]
noncomputable def L49_2 : Code := Code.a (Code.a (Code.b (Code.a (Code.a (Code.b (Code.a (Code.a (Code.b (Code.a (Code.b (Code.b (Code.b (Func.code Try.f49)))))))))))))
def S49_2 (l1 : List (K.ty K.bool)) (x7 : Int) (x8 : Int) (sh0_0 : ByteArray) (lh0_1 : List (K.ty k74)) (lh0_2 : List (K.ty k76)) (sh0_3 : ByteArray) (w1 : List (K.ty K.str)) : St := sp (90 : Nat) [((1 : Nat), V.v (V1.one (Lf.sl (4 : TypeId) K.bool l1))), ((2 : Nat), V.v (V1.one (Lf.ptr (nat_lit 0) (nat_lit 0)))), ((6 : Nat), V.v (V1.one (Lf.own (nat_lit 1)))), ((7 : Nat), V.v (V1.one (Lf.int IntKind.i64 x7))), ((8 : Nat), V.v (V1.one (Lf.int IntKind.i64 x8)))] [Ob.box (46 : Nat) [Lf.str sh0_0, Lf.sl (75 : TypeId) k74 lh0_1, Lf.sl (77 : TypeId) k76 lh0_2, Lf.str sh0_3], Ob.row (9 : TypeId) K.str w1]
def X49_2_0 (l1 : List (K.ty K.bool)) (x7 : Int) (sh0_0 : ByteArray) (lh0_1 : List (K.ty k74)) (lh0_2 : List (K.ty k76)) (sh0_3 : ByteArray) (w1 : List (K.ty K.str)) : St := sp (90 : Nat) [((1 : Nat), V.v (V1.one (Lf.sl (4 : TypeId) K.bool l1))), ((2 : Nat), V.v (V1.one (Lf.ptr (nat_lit 0) (nat_lit 0)))), ((6 : Nat), V.v (V1.one (Lf.own (nat_lit 1)))), ((7 : Nat), V.v (V1.one (Lf.int IntKind.i64 x7)))] [Ob.box (46 : Nat) [Lf.str sh0_0, Lf.sl (75 : TypeId) k74 lh0_1, Lf.sl (77 : TypeId) k76 lh0_2, Lf.str sh0_3], Ob.row (9 : TypeId) K.str w1]
noncomputable def L49_4 : Code := Code.a (Code.a (Code.b (Code.a (Code.b (Code.b (Code.b (Code.a (Code.a (Code.b (Code.a (Code.a (Code.b (Code.a (Code.a (Code.b (Code.a (Code.a (Code.b (Code.a (Code.b (Code.b (Code.b (Func.code Try.f49)))))))))))))))))))))))
def S49_4 (l1 : List (K.ty K.bool)) (x7 : Int) (x8 : Int) (b9 : Bool) (b10 : Bool) (x11 : Int) (sh0_0 : ByteArray) (lh0_1 : List (K.ty k74)) (lh0_2 : List (K.ty k76)) (sh0_3 : ByteArray) (w1 : List (K.ty K.str)) : St := sp (90 : Nat) [((1 : Nat), V.v (V1.one (Lf.sl (4 : TypeId) K.bool l1))), ((2 : Nat), V.v (V1.one (Lf.ptr (nat_lit 0) (nat_lit 0)))), ((6 : Nat), V.v (V1.one (Lf.own (nat_lit 1)))), ((7 : Nat), V.v (V1.one (Lf.int IntKind.i64 x7))), ((8 : Nat), V.v (V1.one (Lf.int IntKind.i64 x8))), ((9 : Nat), V.v (V1.one (Lf.bool b9))), ((10 : Nat), V.v (V1.one (Lf.bool b10))), ((11 : Nat), V.v (V1.one (Lf.int IntKind.i64 x11)))] [Ob.box (46 : Nat) [Lf.str sh0_0, Lf.sl (75 : TypeId) k74 lh0_1, Lf.sl (77 : TypeId) k76 lh0_2, Lf.str sh0_3], Ob.row (9 : TypeId) K.str w1]
def X49_4_0 (l1 : List (K.ty K.bool)) (x7 : Int) (x8 : Int) (b9 : Bool) (b10 : Bool) (sh0_0 : ByteArray) (lh0_1 : List (K.ty k74)) (lh0_2 : List (K.ty k76)) (sh0_3 : ByteArray) (w1 : List (K.ty K.str)) : St := sp (90 : Nat) [((1 : Nat), V.v (V1.one (Lf.sl (4 : TypeId) K.bool l1))), ((2 : Nat), V.v (V1.one (Lf.ptr (nat_lit 0) (nat_lit 0)))), ((6 : Nat), V.v (V1.one (Lf.own (nat_lit 1)))), ((7 : Nat), V.v (V1.one (Lf.int IntKind.i64 x7))), ((8 : Nat), V.v (V1.one (Lf.int IntKind.i64 x8))), ((9 : Nat), V.v (V1.one (Lf.bool b9))), ((10 : Nat), V.v (V1.one (Lf.bool b10)))] [Ob.box (46 : Nat) [Lf.str sh0_0, Lf.sl (75 : TypeId) k74 lh0_1, Lf.sl (77 : TypeId) k76 lh0_2, Lf.str sh0_3], Ob.row (9 : TypeId) K.str w1]
noncomputable def L49_6 : Code := Code.a (Code.a (Code.b (Code.a (Code.b (Code.b (Code.b (Code.b (Func.code Try.f49))))))))
def S49_6 (x12 : Int) (w0 : List (K.ty K.str)) : St := sp (90 : Nat) [((6 : Nat), V.v (V1.one (Lf.own (nat_lit 0)))), ((12 : Nat), V.v (V1.one (Lf.int IntKind.i64 x12)))] [Ob.row (9 : TypeId) K.str w0]
def X49_6_0 (b4 : Bool) (x5 : Int) : St := sp (90 : Nat) [((4 : Nat), V.v (V1.one (Lf.bool b4))), ((5 : Nat), V.v (V1.one (Lf.int IntKind.i64 x5)))] []
def X49_6_1 : St := sp (90 : Nat) [] []
def t49_6 (again : Int → List (K.ty K.str) → Prop) (R0 : Bool → Int → Prop) (R1 : Prop) (x12 : Int) (w0 : List (K.ty K.str)) : Prop :=
  brP (decide (x12 < (↑(List.length w0) : Int))) (bound x12 (List.length w0) ∧ brP (ByteArray.toList (getE K.str w0 x12) == ByteArray.toList (ByteArray.mk #[(82 : UInt8)])) (R0 true (0 : Int)) (again (IntKind.wrap IntKind.i64 (x12 + (1 : Int))) w0)) R1
theorem t49_6_mono {again : Int → List (K.ty K.str) → Prop} {R0 : Bool → Int → Prop} {R1 : Prop} {again' : Int → List (K.ty K.str) → Prop} {R0' : Bool → Int → Prop} {R1' : Prop} (ha : ∀ x12 w0, again x12 w0 → again' x12 w0) (hr0 : ∀ b4 x5, R0 b4 x5 → R0' b4 x5) (hr1 :  R1 → R1') (x12 : Int) (w0 : List (K.ty K.str)) :
    t49_6 again R0 R1 x12 w0 → t49_6 again' R0' R1' x12 w0 :=
  brM (andM (id) (brM (hr0 _ _) (ha _ _))) (hr1)
theorem t49_6_eq (n : Nat) (Q : Ex → St → Prop) (x12 : Int) (w0 : List (K.ty K.str)) :
    t49_6 (fun x12 w0 => loopP (awp tt E49 A49 L49_6 6) ([(6 : Nat), (12 : Nat)], [], [(4 : Nat), (5 : Nat)]) n (S49_6 x12 w0) Q) (fun b4 x5 => Q (Ex.ret) (X49_6_0 b4 x5)) ( Q (Ex.exit (nat_lit 6)) (X49_6_1)) x12 w0 = (loopP (awp tt E49 A49 L49_6 6) ([(6 : Nat), (12 : Nat)], [], [(4 : Nat), (5 : Nat)]) (n + 1) (S49_6 x12 w0) Q) := by kernel_rfl
def G49_6 (R0 : Bool → Int → Prop) (R1 : Prop) : Nat → Int → List (K.ty K.str) → Prop
  | 0, _, _ => False
  | n + 1, x12, w0 => t49_6 (G49_6 R0 R1 n) R0 R1 x12 w0
theorem T49_6 {R0 : Bool → Int → Prop} {R1 : Prop} (Q : Ex → St → Prop) (hr0 : ∀ b4 x5, R0 b4 x5 → Of (Q (Ex.ret) (X49_6_0 b4 x5))) (hr1 :  R1 → Of (Q (Ex.exit (nat_lit 6)) (X49_6_1))) : ∀ (n : Nat) (x12 : Int) (w0 : List (K.ty K.str)), G49_6 R0 R1 n x12 w0 → Of (loopP (awp tt E49 A49 L49_6 6) ([(6 : Nat), (12 : Nat)], [], [(4 : Nat), (5 : Nat)]) n (S49_6 x12 w0) Q) := by
  intro n
  induction n with
  | zero => intro x12 w0 h; exact h.elim
  | succ n ih =>
    intro x12 w0 h
    exact kcO (t49_6_eq n Q x12 w0) (t49_6_mono (fun _ _ h => (ih _ _ h).out) (fun _ _ h => (hr0 _ _ h).out) (fun h => (hr1 h).out) x12 w0 h)
def t49_4 (again : List (K.ty K.bool) → Int → Int → Bool → Bool → Int → ByteArray → List (K.ty k74) → List (K.ty k76) → ByteArray → List (K.ty K.str) → Prop) (R0 : List (K.ty K.bool) → Int → Int → Bool → Bool → ByteArray → List (K.ty k74) → List (K.ty k76) → ByteArray → List (K.ty K.str) → Prop) (l1 : List (K.ty K.bool)) (x7 : Int) (x8 : Int) (b9 : Bool) (b10 : Bool) (x11 : Int) (sh0_0 : ByteArray) (lh0_1 : List (K.ty k74)) (lh0_2 : List (K.ty k76)) (sh0_3 : ByteArray) (w1 : List (K.ty K.str)) : Prop :=
  brP (decide (x11 < (↑(List.length w1) : Int))) (bound x11 (List.length w1) ∧ bound x8 (List.length lh0_1) ∧ brP (ByteArray.toList (getE K.str w1 x11) == ByteArray.toList (getE k74 lh0_1 x8).snd.snd.fst) (bound x11 (List.length w1) ∧ bound x8 (List.length lh0_1) ∧ brP (ByteArray.toList (getE K.str w1 x11) == ByteArray.toList (getE k74 lh0_1 x8).snd.snd.snd) (again l1 x7 x8 true true (IntKind.wrap IntKind.i64 (x11 + (1 : Int))) sh0_0 lh0_1 lh0_2 sh0_3 w1) (again l1 x7 x8 true b10 (IntKind.wrap IntKind.i64 (x11 + (1 : Int))) sh0_0 lh0_1 lh0_2 sh0_3 w1)) (bound x11 (List.length w1) ∧ bound x8 (List.length lh0_1) ∧ brP (ByteArray.toList (getE K.str w1 x11) == ByteArray.toList (getE k74 lh0_1 x8).snd.snd.snd) (again l1 x7 x8 b9 true (IntKind.wrap IntKind.i64 (x11 + (1 : Int))) sh0_0 lh0_1 lh0_2 sh0_3 w1) (again l1 x7 x8 b9 b10 (IntKind.wrap IntKind.i64 (x11 + (1 : Int))) sh0_0 lh0_1 lh0_2 sh0_3 w1))) (R0 l1 x7 x8 b9 b10 sh0_0 lh0_1 lh0_2 sh0_3 w1)
theorem t49_4_mono {again : List (K.ty K.bool) → Int → Int → Bool → Bool → Int → ByteArray → List (K.ty k74) → List (K.ty k76) → ByteArray → List (K.ty K.str) → Prop} {R0 : List (K.ty K.bool) → Int → Int → Bool → Bool → ByteArray → List (K.ty k74) → List (K.ty k76) → ByteArray → List (K.ty K.str) → Prop} {again' : List (K.ty K.bool) → Int → Int → Bool → Bool → Int → ByteArray → List (K.ty k74) → List (K.ty k76) → ByteArray → List (K.ty K.str) → Prop} {R0' : List (K.ty K.bool) → Int → Int → Bool → Bool → ByteArray → List (K.ty k74) → List (K.ty k76) → ByteArray → List (K.ty K.str) → Prop} (ha : ∀ l1 x7 x8 b9 b10 x11 sh0_0 lh0_1 lh0_2 sh0_3 w1, again l1 x7 x8 b9 b10 x11 sh0_0 lh0_1 lh0_2 sh0_3 w1 → again' l1 x7 x8 b9 b10 x11 sh0_0 lh0_1 lh0_2 sh0_3 w1) (hr0 : ∀ l1 x7 x8 b9 b10 sh0_0 lh0_1 lh0_2 sh0_3 w1, R0 l1 x7 x8 b9 b10 sh0_0 lh0_1 lh0_2 sh0_3 w1 → R0' l1 x7 x8 b9 b10 sh0_0 lh0_1 lh0_2 sh0_3 w1) (l1 : List (K.ty K.bool)) (x7 : Int) (x8 : Int) (b9 : Bool) (b10 : Bool) (x11 : Int) (sh0_0 : ByteArray) (lh0_1 : List (K.ty k74)) (lh0_2 : List (K.ty k76)) (sh0_3 : ByteArray) (w1 : List (K.ty K.str)) :
    t49_4 again R0 l1 x7 x8 b9 b10 x11 sh0_0 lh0_1 lh0_2 sh0_3 w1 → t49_4 again' R0' l1 x7 x8 b9 b10 x11 sh0_0 lh0_1 lh0_2 sh0_3 w1 :=
  brM (andM (id) (andM (id) (brM (andM (id) (andM (id) (brM (ha _ _ _ _ _ _ _ _ _ _ _) (ha _ _ _ _ _ _ _ _ _ _ _)))) (andM (id) (andM (id) (brM (ha _ _ _ _ _ _ _ _ _ _ _) (ha _ _ _ _ _ _ _ _ _ _ _))))))) (hr0 _ _ _ _ _ _ _ _ _ _)
theorem t49_4_eq (n : Nat) (Q : Ex → St → Prop) (l1 : List (K.ty K.bool)) (x7 : Int) (x8 : Int) (b9 : Bool) (b10 : Bool) (x11 : Int) (sh0_0 : ByteArray) (lh0_1 : List (K.ty k74)) (lh0_2 : List (K.ty k76)) (sh0_3 : ByteArray) (w1 : List (K.ty K.str)) :
    t49_4 (fun l1 x7 x8 b9 b10 x11 sh0_0 lh0_1 lh0_2 sh0_3 w1 => loopP (awp tt E49 A49 L49_4 4) ([(1 : Nat), (2 : Nat), (6 : Nat), (7 : Nat), (8 : Nat), (9 : Nat), (10 : Nat), (11 : Nat)], [(1 : Nat), (2 : Nat), (6 : Nat), (7 : Nat), (8 : Nat), (9 : Nat), (10 : Nat)], [(4 : Nat), (5 : Nat)]) n (S49_4 l1 x7 x8 b9 b10 x11 sh0_0 lh0_1 lh0_2 sh0_3 w1) Q) (fun l1 x7 x8 b9 b10 sh0_0 lh0_1 lh0_2 sh0_3 w1 => Q (Ex.exit (nat_lit 4)) (X49_4_0 l1 x7 x8 b9 b10 sh0_0 lh0_1 lh0_2 sh0_3 w1)) l1 x7 x8 b9 b10 x11 sh0_0 lh0_1 lh0_2 sh0_3 w1 = (loopP (awp tt E49 A49 L49_4 4) ([(1 : Nat), (2 : Nat), (6 : Nat), (7 : Nat), (8 : Nat), (9 : Nat), (10 : Nat), (11 : Nat)], [(1 : Nat), (2 : Nat), (6 : Nat), (7 : Nat), (8 : Nat), (9 : Nat), (10 : Nat)], [(4 : Nat), (5 : Nat)]) (n + 1) (S49_4 l1 x7 x8 b9 b10 x11 sh0_0 lh0_1 lh0_2 sh0_3 w1) Q) := by kernel_rfl
def G49_4 (R0 : List (K.ty K.bool) → Int → Int → Bool → Bool → ByteArray → List (K.ty k74) → List (K.ty k76) → ByteArray → List (K.ty K.str) → Prop) : Nat → List (K.ty K.bool) → Int → Int → Bool → Bool → Int → ByteArray → List (K.ty k74) → List (K.ty k76) → ByteArray → List (K.ty K.str) → Prop
  | 0, _, _, _, _, _, _, _, _, _, _, _ => False
  | n + 1, l1, x7, x8, b9, b10, x11, sh0_0, lh0_1, lh0_2, sh0_3, w1 => t49_4 (G49_4 R0 n) R0 l1 x7 x8 b9 b10 x11 sh0_0 lh0_1 lh0_2 sh0_3 w1
theorem T49_4 {R0 : List (K.ty K.bool) → Int → Int → Bool → Bool → ByteArray → List (K.ty k74) → List (K.ty k76) → ByteArray → List (K.ty K.str) → Prop} (Q : Ex → St → Prop) (hr0 : ∀ l1 x7 x8 b9 b10 sh0_0 lh0_1 lh0_2 sh0_3 w1, R0 l1 x7 x8 b9 b10 sh0_0 lh0_1 lh0_2 sh0_3 w1 → Of (Q (Ex.exit (nat_lit 4)) (X49_4_0 l1 x7 x8 b9 b10 sh0_0 lh0_1 lh0_2 sh0_3 w1))) : ∀ (n : Nat) (l1 : List (K.ty K.bool)) (x7 : Int) (x8 : Int) (b9 : Bool) (b10 : Bool) (x11 : Int) (sh0_0 : ByteArray) (lh0_1 : List (K.ty k74)) (lh0_2 : List (K.ty k76)) (sh0_3 : ByteArray) (w1 : List (K.ty K.str)), G49_4 R0 n l1 x7 x8 b9 b10 x11 sh0_0 lh0_1 lh0_2 sh0_3 w1 → Of (loopP (awp tt E49 A49 L49_4 4) ([(1 : Nat), (2 : Nat), (6 : Nat), (7 : Nat), (8 : Nat), (9 : Nat), (10 : Nat), (11 : Nat)], [(1 : Nat), (2 : Nat), (6 : Nat), (7 : Nat), (8 : Nat), (9 : Nat), (10 : Nat)], [(4 : Nat), (5 : Nat)]) n (S49_4 l1 x7 x8 b9 b10 x11 sh0_0 lh0_1 lh0_2 sh0_3 w1) Q) := by
  intro n
  induction n with
  | zero => intro l1 x7 x8 b9 b10 x11 sh0_0 lh0_1 lh0_2 sh0_3 w1 h; exact h.elim
  | succ n ih =>
    intro l1 x7 x8 b9 b10 x11 sh0_0 lh0_1 lh0_2 sh0_3 w1 h
    exact kcO (t49_4_eq n Q l1 x7 x8 b9 b10 x11 sh0_0 lh0_1 lh0_2 sh0_3 w1) (t49_4_mono (fun _ _ _ _ _ _ _ _ _ _ _ h => (ih _ _ _ _ _ _ _ _ _ _ _ h).out) (fun _ _ _ _ _ _ _ _ _ _ h => (hr0 _ _ _ _ _ _ _ _ _ _ h).out) l1 x7 x8 b9 b10 x11 sh0_0 lh0_1 lh0_2 sh0_3 w1 h)
def t49_2 (again : List (K.ty K.bool) → Int → Int → ByteArray → List (K.ty k74) → List (K.ty k76) → ByteArray → List (K.ty K.str) → Prop) (R0 : List (K.ty K.bool) → Int → ByteArray → List (K.ty k74) → List (K.ty k76) → ByteArray → List (K.ty K.str) → Prop) (lp0 : List (K.ty K.bool) → Int → Int → ByteArray → List (K.ty k74) → List (K.ty k76) → ByteArray → List (K.ty K.str) → Prop) (l1 : List (K.ty K.bool)) (x7 : Int) (x8 : Int) (sh0_0 : ByteArray) (lh0_1 : List (K.ty k74)) (lh0_2 : List (K.ty k76)) (sh0_3 : ByteArray) (w1 : List (K.ty K.str)) : Prop :=
  brP (decide (x8 < (↑(List.length l1) : Int))) (bound x8 (List.length l1) ∧ brP (!getE K.bool l1 x8) (again l1 x7 (IntKind.wrap IntKind.i64 (x8 + (1 : Int))) sh0_0 lh0_1 lh0_2 sh0_3 w1) (lp0 l1 x7 x8 sh0_0 lh0_1 lh0_2 sh0_3 w1)) (R0 l1 x7 sh0_0 lh0_1 lh0_2 sh0_3 w1)
theorem t49_2_mono {again : List (K.ty K.bool) → Int → Int → ByteArray → List (K.ty k74) → List (K.ty k76) → ByteArray → List (K.ty K.str) → Prop} {R0 : List (K.ty K.bool) → Int → ByteArray → List (K.ty k74) → List (K.ty k76) → ByteArray → List (K.ty K.str) → Prop} {again' : List (K.ty K.bool) → Int → Int → ByteArray → List (K.ty k74) → List (K.ty k76) → ByteArray → List (K.ty K.str) → Prop} {R0' : List (K.ty K.bool) → Int → ByteArray → List (K.ty k74) → List (K.ty k76) → ByteArray → List (K.ty K.str) → Prop} {lp0 : List (K.ty K.bool) → Int → Int → ByteArray → List (K.ty k74) → List (K.ty k76) → ByteArray → List (K.ty K.str) → Prop} {lp0' : List (K.ty K.bool) → Int → Int → ByteArray → List (K.ty k74) → List (K.ty k76) → ByteArray → List (K.ty K.str) → Prop} (ha : ∀ l1 x7 x8 sh0_0 lh0_1 lh0_2 sh0_3 w1, again l1 x7 x8 sh0_0 lh0_1 lh0_2 sh0_3 w1 → again' l1 x7 x8 sh0_0 lh0_1 lh0_2 sh0_3 w1) (hr0 : ∀ l1 x7 sh0_0 lh0_1 lh0_2 sh0_3 w1, R0 l1 x7 sh0_0 lh0_1 lh0_2 sh0_3 w1 → R0' l1 x7 sh0_0 lh0_1 lh0_2 sh0_3 w1) (hlp0 : ∀ l1 x7 x8 sh0_0 lh0_1 lh0_2 sh0_3 w1, lp0 l1 x7 x8 sh0_0 lh0_1 lh0_2 sh0_3 w1 → lp0' l1 x7 x8 sh0_0 lh0_1 lh0_2 sh0_3 w1) (l1 : List (K.ty K.bool)) (x7 : Int) (x8 : Int) (sh0_0 : ByteArray) (lh0_1 : List (K.ty k74)) (lh0_2 : List (K.ty k76)) (sh0_3 : ByteArray) (w1 : List (K.ty K.str)) :
    t49_2 again R0 lp0 l1 x7 x8 sh0_0 lh0_1 lh0_2 sh0_3 w1 → t49_2 again' R0' lp0' l1 x7 x8 sh0_0 lh0_1 lh0_2 sh0_3 w1 :=
  brM (andM (id) (brM (ha _ _ _ _ _ _ _ _) (hlp0 _ _ _ _ _ _ _ _))) (hr0 _ _ _ _ _ _ _)
theorem t49_2_eq (n : Nat) (Q : Ex → St → Prop) (l1 : List (K.ty K.bool)) (x7 : Int) (x8 : Int) (sh0_0 : ByteArray) (lh0_1 : List (K.ty k74)) (lh0_2 : List (K.ty k76)) (sh0_3 : ByteArray) (w1 : List (K.ty K.str)) :
    t49_2 (fun l1 x7 x8 sh0_0 lh0_1 lh0_2 sh0_3 w1 => loopP (awp tt E49 A49 L49_2 2) ([(1 : Nat), (2 : Nat), (6 : Nat), (7 : Nat), (8 : Nat)], [(1 : Nat), (2 : Nat), (6 : Nat), (7 : Nat)], [(4 : Nat), (5 : Nat)]) n (S49_2 l1 x7 x8 sh0_0 lh0_1 lh0_2 sh0_3 w1) Q) (fun l1 x7 sh0_0 lh0_1 lh0_2 sh0_3 w1 => Q (Ex.exit (nat_lit 2)) (X49_2_0 l1 x7 sh0_0 lh0_1 lh0_2 sh0_3 w1)) (fun l1 x7 x8 sh0_0 lh0_1 lh0_2 sh0_3 w1 => ∃ m, loopP (awp tt E49 A49 L49_4 4) ([(1 : Nat), (2 : Nat), (6 : Nat), (7 : Nat), (8 : Nat), (9 : Nat), (10 : Nat), (11 : Nat)], [(1 : Nat), (2 : Nat), (6 : Nat), (7 : Nat), (8 : Nat), (9 : Nat), (10 : Nat)], [(4 : Nat), (5 : Nat)]) m (S49_4 (l1) (x7) (x8) (false) (false) ((0 : Int)) (sh0_0) (lh0_1) (lh0_2) (sh0_3) (w1)) (blkC (4 : Nat) (seqC (awp tt E49 A49 (Code.b (Code.b (Code.b (Code.b (Code.a (Code.a (Code.b (Code.a (Code.a (Code.b (Code.a (Code.a (Code.b (Code.a (Code.a (Code.b (Code.a (Code.b (Code.b (Code.b (Func.code Try.f49))))))))))))))))))))) (3 : Nat)) (blkC (3 : Nat) (seqC (awp tt E49 A49 (Code.b (Code.b (Code.a (Code.a (Code.b (Code.a (Code.a (Code.b (Code.a (Code.a (Code.b (Code.a (Code.b (Code.b (Code.b (Func.code Try.f49)))))))))))))))) (2 : Nat)) (loopC (awp tt E49 A49 (Code.a (Code.a (Code.b (Code.a (Code.a (Code.b (Code.a (Code.a (Code.b (Code.a (Code.b (Code.b (Code.b (Func.code Try.f49)))))))))))))) (2 : Nat)) ([(1 : Nat), (2 : Nat), (6 : Nat), (7 : Nat), (8 : Nat)], [(1 : Nat), (2 : Nat), (6 : Nat), (7 : Nat)], [(4 : Nat), (5 : Nat)]) n Q)))))) l1 x7 x8 sh0_0 lh0_1 lh0_2 sh0_3 w1 = (loopP (awp tt E49 A49 L49_2 2) ([(1 : Nat), (2 : Nat), (6 : Nat), (7 : Nat), (8 : Nat)], [(1 : Nat), (2 : Nat), (6 : Nat), (7 : Nat)], [(4 : Nat), (5 : Nat)]) (n + 1) (S49_2 l1 x7 x8 sh0_0 lh0_1 lh0_2 sh0_3 w1) Q) := by kernel_rfl
def t49_2c0x0 (again : List (K.ty K.bool) → Int → Int → ByteArray → List (K.ty k74) → List (K.ty k76) → ByteArray → List (K.ty K.str) → Prop) (R0 : List (K.ty K.bool) → Int → ByteArray → List (K.ty k74) → List (K.ty k76) → ByteArray → List (K.ty K.str) → Prop) (l1 : List (K.ty K.bool)) (x7 : Int) (x8 : Int) (sh0_0 : ByteArray) (lh0_1 : List (K.ty k74)) (lh0_2 : List (K.ty k76)) (sh0_3 : ByteArray) (w1 : List (K.ty K.str)) (l1e8 : List (K.ty K.bool)) (x7e8 : Int) (x8e8 : Int) (b9e8 : Bool) (b10e8 : Bool) (sh0_0e8 : ByteArray) (lh0_1e8 : List (K.ty k74)) (lh0_2e8 : List (K.ty k76)) (sh0_3e8 : ByteArray) (w1e8 : List (K.ty K.str)) : Prop :=
  brP b9e8 (brP (!b10e8) (bound x8e8 (List.length lh0_1e8) ∧ room tt (9 : TypeId) (List.length w1e8 + List.length (List.set (List.replicate (1 : Nat) (K.dflt K.str)) (0 : Nat) (getE k74 lh0_1e8 x8e8).snd.snd.snd)) ∧ again l1e8 x7e8 (IntKind.wrap IntKind.i64 (x8e8 + (1 : Int))) sh0_0e8 lh0_1e8 lh0_2e8 sh0_3e8 (w1e8 ++ List.set (List.replicate (1 : Nat) (K.dflt K.str)) (0 : Nat) (getE k74 lh0_1e8 x8e8).snd.snd.snd)) (again l1e8 x7e8 (IntKind.wrap IntKind.i64 (x8e8 + (1 : Int))) sh0_0e8 lh0_1e8 lh0_2e8 sh0_3e8 w1e8)) (again l1e8 x7e8 (IntKind.wrap IntKind.i64 (x8e8 + (1 : Int))) sh0_0e8 lh0_1e8 lh0_2e8 sh0_3e8 w1e8)
theorem t49_2c0x0_mono {again : List (K.ty K.bool) → Int → Int → ByteArray → List (K.ty k74) → List (K.ty k76) → ByteArray → List (K.ty K.str) → Prop} {R0 : List (K.ty K.bool) → Int → ByteArray → List (K.ty k74) → List (K.ty k76) → ByteArray → List (K.ty K.str) → Prop} {again' : List (K.ty K.bool) → Int → Int → ByteArray → List (K.ty k74) → List (K.ty k76) → ByteArray → List (K.ty K.str) → Prop} {R0' : List (K.ty K.bool) → Int → ByteArray → List (K.ty k74) → List (K.ty k76) → ByteArray → List (K.ty K.str) → Prop} (ha : ∀ l1 x7 x8 sh0_0 lh0_1 lh0_2 sh0_3 w1, again l1 x7 x8 sh0_0 lh0_1 lh0_2 sh0_3 w1 → again' l1 x7 x8 sh0_0 lh0_1 lh0_2 sh0_3 w1) (hr0 : ∀ l1 x7 sh0_0 lh0_1 lh0_2 sh0_3 w1, R0 l1 x7 sh0_0 lh0_1 lh0_2 sh0_3 w1 → R0' l1 x7 sh0_0 lh0_1 lh0_2 sh0_3 w1) (l1 : List (K.ty K.bool)) (x7 : Int) (x8 : Int) (sh0_0 : ByteArray) (lh0_1 : List (K.ty k74)) (lh0_2 : List (K.ty k76)) (sh0_3 : ByteArray) (w1 : List (K.ty K.str)) (l1e8 : List (K.ty K.bool)) (x7e8 : Int) (x8e8 : Int) (b9e8 : Bool) (b10e8 : Bool) (sh0_0e8 : ByteArray) (lh0_1e8 : List (K.ty k74)) (lh0_2e8 : List (K.ty k76)) (sh0_3e8 : ByteArray) (w1e8 : List (K.ty K.str)) :
    t49_2c0x0 again R0 l1 x7 x8 sh0_0 lh0_1 lh0_2 sh0_3 w1 l1e8 x7e8 x8e8 b9e8 b10e8 sh0_0e8 lh0_1e8 lh0_2e8 sh0_3e8 w1e8 → t49_2c0x0 again' R0' l1 x7 x8 sh0_0 lh0_1 lh0_2 sh0_3 w1 l1e8 x7e8 x8e8 b9e8 b10e8 sh0_0e8 lh0_1e8 lh0_2e8 sh0_3e8 w1e8 :=
  brM (brM (andM (id) (andM (id) (ha _ _ _ _ _ _ _ _))) (ha _ _ _ _ _ _ _ _)) (ha _ _ _ _ _ _ _ _)
theorem t49_2c0x0_eq (n : Nat) (Q : Ex → St → Prop) (l1 : List (K.ty K.bool)) (x7 : Int) (x8 : Int) (sh0_0 : ByteArray) (lh0_1 : List (K.ty k74)) (lh0_2 : List (K.ty k76)) (sh0_3 : ByteArray) (w1 : List (K.ty K.str)) (l1e8 : List (K.ty K.bool)) (x7e8 : Int) (x8e8 : Int) (b9e8 : Bool) (b10e8 : Bool) (sh0_0e8 : ByteArray) (lh0_1e8 : List (K.ty k74)) (lh0_2e8 : List (K.ty k76)) (sh0_3e8 : ByteArray) (w1e8 : List (K.ty K.str)) :
    t49_2c0x0 (fun l1 x7 x8 sh0_0 lh0_1 lh0_2 sh0_3 w1 => loopP (awp tt E49 A49 L49_2 2) ([(1 : Nat), (2 : Nat), (6 : Nat), (7 : Nat), (8 : Nat)], [(1 : Nat), (2 : Nat), (6 : Nat), (7 : Nat)], [(4 : Nat), (5 : Nat)]) n (S49_2 l1 x7 x8 sh0_0 lh0_1 lh0_2 sh0_3 w1) Q) (fun l1 x7 sh0_0 lh0_1 lh0_2 sh0_3 w1 => Q (Ex.exit (nat_lit 2)) (X49_2_0 l1 x7 sh0_0 lh0_1 lh0_2 sh0_3 w1)) l1 x7 x8 sh0_0 lh0_1 lh0_2 sh0_3 w1 l1e8 x7e8 x8e8 b9e8 b10e8 sh0_0e8 lh0_1e8 lh0_2e8 sh0_3e8 w1e8 = ((blkC (4 : Nat) (seqC (awp tt E49 A49 (Code.b (Code.b (Code.b (Code.b (Code.a (Code.a (Code.b (Code.a (Code.a (Code.b (Code.a (Code.a (Code.b (Code.a (Code.a (Code.b (Code.a (Code.b (Code.b (Code.b (Func.code Try.f49))))))))))))))))))))) (3 : Nat)) (blkC (3 : Nat) (seqC (awp tt E49 A49 (Code.b (Code.b (Code.a (Code.a (Code.b (Code.a (Code.a (Code.b (Code.a (Code.a (Code.b (Code.a (Code.b (Code.b (Code.b (Func.code Try.f49)))))))))))))))) (2 : Nat)) (loopC (awp tt E49 A49 (Code.a (Code.a (Code.b (Code.a (Code.a (Code.b (Code.a (Code.a (Code.b (Code.a (Code.b (Code.b (Code.b (Func.code Try.f49)))))))))))))) (2 : Nat)) ([(1 : Nat), (2 : Nat), (6 : Nat), (7 : Nat), (8 : Nat)], [(1 : Nat), (2 : Nat), (6 : Nat), (7 : Nat)], [(4 : Nat), (5 : Nat)]) n Q))))) (Ex.exit (nat_lit 4)) (X49_4_0 l1e8 x7e8 x8e8 b9e8 b10e8 sh0_0e8 lh0_1e8 lh0_2e8 sh0_3e8 w1e8)) := by kernel_rfl
def G49_2 (R0 : List (K.ty K.bool) → Int → ByteArray → List (K.ty k74) → List (K.ty k76) → ByteArray → List (K.ty K.str) → Prop) : Nat → List (K.ty K.bool) → Int → Int → ByteArray → List (K.ty k74) → List (K.ty k76) → ByteArray → List (K.ty K.str) → Prop
  | 0, _, _, _, _, _, _, _, _ => False
  | n + 1, l1, x7, x8, sh0_0, lh0_1, lh0_2, sh0_3, w1 => t49_2 (G49_2 R0 n) R0 (fun l1 x7 x8 sh0_0 lh0_1 lh0_2 sh0_3 w1 => ∃ m, G49_4 (fun l1e8 x7e8 x8e8 b9e8 b10e8 sh0_0e8 lh0_1e8 lh0_2e8 sh0_3e8 w1e8 => t49_2c0x0 (G49_2 R0 n) R0 l1 x7 x8 sh0_0 lh0_1 lh0_2 sh0_3 w1 l1e8 x7e8 x8e8 b9e8 b10e8 sh0_0e8 lh0_1e8 lh0_2e8 sh0_3e8 w1e8) m (l1) (x7) (x8) (false) (false) ((0 : Int)) (sh0_0) (lh0_1) (lh0_2) (sh0_3) (w1)) l1 x7 x8 sh0_0 lh0_1 lh0_2 sh0_3 w1
theorem T49_2 {R0 : List (K.ty K.bool) → Int → ByteArray → List (K.ty k74) → List (K.ty k76) → ByteArray → List (K.ty K.str) → Prop} (Q : Ex → St → Prop) (hr0 : ∀ l1 x7 sh0_0 lh0_1 lh0_2 sh0_3 w1, R0 l1 x7 sh0_0 lh0_1 lh0_2 sh0_3 w1 → Of (Q (Ex.exit (nat_lit 2)) (X49_2_0 l1 x7 sh0_0 lh0_1 lh0_2 sh0_3 w1))) : ∀ (n : Nat) (l1 : List (K.ty K.bool)) (x7 : Int) (x8 : Int) (sh0_0 : ByteArray) (lh0_1 : List (K.ty k74)) (lh0_2 : List (K.ty k76)) (sh0_3 : ByteArray) (w1 : List (K.ty K.str)), G49_2 R0 n l1 x7 x8 sh0_0 lh0_1 lh0_2 sh0_3 w1 → Of (loopP (awp tt E49 A49 L49_2 2) ([(1 : Nat), (2 : Nat), (6 : Nat), (7 : Nat), (8 : Nat)], [(1 : Nat), (2 : Nat), (6 : Nat), (7 : Nat)], [(4 : Nat), (5 : Nat)]) n (S49_2 l1 x7 x8 sh0_0 lh0_1 lh0_2 sh0_3 w1) Q) := by
  intro n
  induction n with
  | zero => intro l1 x7 x8 sh0_0 lh0_1 lh0_2 sh0_3 w1 h; exact h.elim
  | succ n ih =>
    intro l1 x7 x8 sh0_0 lh0_1 lh0_2 sh0_3 w1 h
    exact kcO (t49_2_eq n Q l1 x7 x8 sh0_0 lh0_1 lh0_2 sh0_3 w1) (t49_2_mono (fun _ _ _ _ _ _ _ _ h => (ih _ _ _ _ _ _ _ _ h).out) (fun _ _ _ _ _ _ _ h => (hr0 _ _ _ _ _ _ _ h).out) (fun l1 x7 x8 sh0_0 lh0_1 lh0_2 sh0_3 w1 ⟨m, h⟩ => ⟨m, (T49_4 _ (fun l1e8 x7e8 x8e8 b9e8 b10e8 sh0_0e8 lh0_1e8 lh0_2e8 sh0_3e8 w1e8 h => kcO (t49_2c0x0_eq _ _ _ _ _ _ _ _ _ _ _ _ _ _ _ _ _ _ _ _) (t49_2c0x0_mono (fun _ _ _ _ _ _ _ _ h => (ih _ _ _ _ _ _ _ _ h).out) (fun _ _ _ _ _ _ _ h => (hr0 _ _ _ _ _ _ _ h).out) _ _ _ _ _ _ _ _ _ _ _ _ _ _ _ _ _ _ h)) m _ _ _ _ _ _ _ _ _ _ _ h).out⟩) l1 x7 x8 sh0_0 lh0_1 lh0_2 sh0_3 w1 h)
def t49_0 (again : List (K.ty K.bool) → Int → ByteArray → List (K.ty k74) → List (K.ty k76) → ByteArray → List (K.ty ((9 : TypeId), K.str).snd) → Prop) (R0 : List (K.ty K.str) → Prop) (lp0 : List (K.ty K.bool) → Int → ByteArray → List (K.ty k74) → List (K.ty k76) → ByteArray → List (K.ty ((9 : TypeId), K.str).snd) → Prop) (l1 : List (K.ty K.bool)) (x7 : Int) (sh0_0 : ByteArray) (lh0_1 : List (K.ty k74)) (lh0_2 : List (K.ty k76)) (sh0_3 : ByteArray) (w1 : List (K.ty ((9 : TypeId), K.str).snd)) : Prop :=
  brP (decide (x7 ≤ (↑(List.length l1) : Int))) (lp0 l1 x7 sh0_0 lh0_1 lh0_2 sh0_3 w1) (R0 w1)
theorem t49_0_mono {again : List (K.ty K.bool) → Int → ByteArray → List (K.ty k74) → List (K.ty k76) → ByteArray → List (K.ty ((9 : TypeId), K.str).snd) → Prop} {R0 : List (K.ty K.str) → Prop} {again' : List (K.ty K.bool) → Int → ByteArray → List (K.ty k74) → List (K.ty k76) → ByteArray → List (K.ty ((9 : TypeId), K.str).snd) → Prop} {R0' : List (K.ty K.str) → Prop} {lp0 : List (K.ty K.bool) → Int → ByteArray → List (K.ty k74) → List (K.ty k76) → ByteArray → List (K.ty ((9 : TypeId), K.str).snd) → Prop} {lp0' : List (K.ty K.bool) → Int → ByteArray → List (K.ty k74) → List (K.ty k76) → ByteArray → List (K.ty ((9 : TypeId), K.str).snd) → Prop} (ha : ∀ l1 x7 sh0_0 lh0_1 lh0_2 sh0_3 w1, again l1 x7 sh0_0 lh0_1 lh0_2 sh0_3 w1 → again' l1 x7 sh0_0 lh0_1 lh0_2 sh0_3 w1) (hr0 : ∀ w0, R0 w0 → R0' w0) (hlp0 : ∀ l1 x7 sh0_0 lh0_1 lh0_2 sh0_3 w1, lp0 l1 x7 sh0_0 lh0_1 lh0_2 sh0_3 w1 → lp0' l1 x7 sh0_0 lh0_1 lh0_2 sh0_3 w1) (l1 : List (K.ty K.bool)) (x7 : Int) (sh0_0 : ByteArray) (lh0_1 : List (K.ty k74)) (lh0_2 : List (K.ty k76)) (sh0_3 : ByteArray) (w1 : List (K.ty ((9 : TypeId), K.str).snd)) :
    t49_0 again R0 lp0 l1 x7 sh0_0 lh0_1 lh0_2 sh0_3 w1 → t49_0 again' R0' lp0' l1 x7 sh0_0 lh0_1 lh0_2 sh0_3 w1 :=
  brM (hlp0 _ _ _ _ _ _ _) (hr0 _)
theorem t49_0_eq (n : Nat) (Q : Ex → St → Prop) (l1 : List (K.ty K.bool)) (x7 : Int) (sh0_0 : ByteArray) (lh0_1 : List (K.ty k74)) (lh0_2 : List (K.ty k76)) (sh0_3 : ByteArray) (w1 : List (K.ty ((9 : TypeId), K.str).snd)) :
    t49_0 (fun l1 x7 sh0_0 lh0_1 lh0_2 sh0_3 w1 => loopP (awp tt E49 A49 L49_0 0) ([(1 : Nat), (2 : Nat), (6 : Nat), (7 : Nat)], [(6 : Nat)], [(4 : Nat), (5 : Nat)]) n (S49_0 l1 x7 sh0_0 lh0_1 lh0_2 sh0_3 w1) Q) (fun w0 => Q (Ex.exit (nat_lit 0)) (X49_0_0 w0)) (fun l1 x7 sh0_0 lh0_1 lh0_2 sh0_3 w1 => ∃ m, loopP (awp tt E49 A49 L49_2 2) ([(1 : Nat), (2 : Nat), (6 : Nat), (7 : Nat), (8 : Nat)], [(1 : Nat), (2 : Nat), (6 : Nat), (7 : Nat)], [(4 : Nat), (5 : Nat)]) m (S49_2 (l1) (x7) ((0 : Int)) (sh0_0) (lh0_1) (lh0_2) (sh0_3) (w1)) (blkC (2 : Nat) (blkC (1 : Nat) (seqC (awp tt E49 A49 (Code.b (Code.b (Code.a (Code.a (Code.b (Code.a (Code.b (Code.b (Code.b (Func.code Try.f49)))))))))) (0 : Nat)) (loopC (awp tt E49 A49 (Code.a (Code.a (Code.b (Code.a (Code.b (Code.b (Code.b (Func.code Try.f49)))))))) (0 : Nat)) ([(1 : Nat), (2 : Nat), (6 : Nat), (7 : Nat)], [(6 : Nat)], [(4 : Nat), (5 : Nat)]) n Q))))) l1 x7 sh0_0 lh0_1 lh0_2 sh0_3 w1 = (loopP (awp tt E49 A49 L49_0 0) ([(1 : Nat), (2 : Nat), (6 : Nat), (7 : Nat)], [(6 : Nat)], [(4 : Nat), (5 : Nat)]) (n + 1) (S49_0 l1 x7 sh0_0 lh0_1 lh0_2 sh0_3 w1) Q) := by kernel_rfl
def t49_0c0x0 (again : List (K.ty K.bool) → Int → ByteArray → List (K.ty k74) → List (K.ty k76) → ByteArray → List (K.ty ((9 : TypeId), K.str).snd) → Prop) (R0 : List (K.ty K.str) → Prop) (l1 : List (K.ty K.bool)) (x7 : Int) (sh0_0 : ByteArray) (lh0_1 : List (K.ty k74)) (lh0_2 : List (K.ty k76)) (sh0_3 : ByteArray) (w1 : List (K.ty ((9 : TypeId), K.str).snd)) (l1e7 : List (K.ty K.bool)) (x7e7 : Int) (sh0_0e7 : ByteArray) (lh0_1e7 : List (K.ty k74)) (lh0_2e7 : List (K.ty k76)) (sh0_3e7 : ByteArray) (w1e7 : List (K.ty K.str)) : Prop :=
  again l1e7 (IntKind.wrap IntKind.i64 (x7e7 + (1 : Int))) sh0_0e7 lh0_1e7 lh0_2e7 sh0_3e7 w1e7
theorem t49_0c0x0_mono {again : List (K.ty K.bool) → Int → ByteArray → List (K.ty k74) → List (K.ty k76) → ByteArray → List (K.ty ((9 : TypeId), K.str).snd) → Prop} {R0 : List (K.ty K.str) → Prop} {again' : List (K.ty K.bool) → Int → ByteArray → List (K.ty k74) → List (K.ty k76) → ByteArray → List (K.ty ((9 : TypeId), K.str).snd) → Prop} {R0' : List (K.ty K.str) → Prop} (ha : ∀ l1 x7 sh0_0 lh0_1 lh0_2 sh0_3 w1, again l1 x7 sh0_0 lh0_1 lh0_2 sh0_3 w1 → again' l1 x7 sh0_0 lh0_1 lh0_2 sh0_3 w1) (hr0 : ∀ w0, R0 w0 → R0' w0) (l1 : List (K.ty K.bool)) (x7 : Int) (sh0_0 : ByteArray) (lh0_1 : List (K.ty k74)) (lh0_2 : List (K.ty k76)) (sh0_3 : ByteArray) (w1 : List (K.ty ((9 : TypeId), K.str).snd)) (l1e7 : List (K.ty K.bool)) (x7e7 : Int) (sh0_0e7 : ByteArray) (lh0_1e7 : List (K.ty k74)) (lh0_2e7 : List (K.ty k76)) (sh0_3e7 : ByteArray) (w1e7 : List (K.ty K.str)) :
    t49_0c0x0 again R0 l1 x7 sh0_0 lh0_1 lh0_2 sh0_3 w1 l1e7 x7e7 sh0_0e7 lh0_1e7 lh0_2e7 sh0_3e7 w1e7 → t49_0c0x0 again' R0' l1 x7 sh0_0 lh0_1 lh0_2 sh0_3 w1 l1e7 x7e7 sh0_0e7 lh0_1e7 lh0_2e7 sh0_3e7 w1e7 :=
  ha _ _ _ _ _ _ _
theorem t49_0c0x0_eq (n : Nat) (Q : Ex → St → Prop) (l1 : List (K.ty K.bool)) (x7 : Int) (sh0_0 : ByteArray) (lh0_1 : List (K.ty k74)) (lh0_2 : List (K.ty k76)) (sh0_3 : ByteArray) (w1 : List (K.ty ((9 : TypeId), K.str).snd)) (l1e7 : List (K.ty K.bool)) (x7e7 : Int) (sh0_0e7 : ByteArray) (lh0_1e7 : List (K.ty k74)) (lh0_2e7 : List (K.ty k76)) (sh0_3e7 : ByteArray) (w1e7 : List (K.ty K.str)) :
    t49_0c0x0 (fun l1 x7 sh0_0 lh0_1 lh0_2 sh0_3 w1 => loopP (awp tt E49 A49 L49_0 0) ([(1 : Nat), (2 : Nat), (6 : Nat), (7 : Nat)], [(6 : Nat)], [(4 : Nat), (5 : Nat)]) n (S49_0 l1 x7 sh0_0 lh0_1 lh0_2 sh0_3 w1) Q) (fun w0 => Q (Ex.exit (nat_lit 0)) (X49_0_0 w0)) l1 x7 sh0_0 lh0_1 lh0_2 sh0_3 w1 l1e7 x7e7 sh0_0e7 lh0_1e7 lh0_2e7 sh0_3e7 w1e7 = ((blkC (2 : Nat) (blkC (1 : Nat) (seqC (awp tt E49 A49 (Code.b (Code.b (Code.a (Code.a (Code.b (Code.a (Code.b (Code.b (Code.b (Func.code Try.f49)))))))))) (0 : Nat)) (loopC (awp tt E49 A49 (Code.a (Code.a (Code.b (Code.a (Code.b (Code.b (Code.b (Func.code Try.f49)))))))) (0 : Nat)) ([(1 : Nat), (2 : Nat), (6 : Nat), (7 : Nat)], [(6 : Nat)], [(4 : Nat), (5 : Nat)]) n Q)))) (Ex.exit (nat_lit 2)) (X49_2_0 l1e7 x7e7 sh0_0e7 lh0_1e7 lh0_2e7 sh0_3e7 w1e7)) := by kernel_rfl
def G49_0 (R0 : List (K.ty K.str) → Prop) : Nat → List (K.ty K.bool) → Int → ByteArray → List (K.ty k74) → List (K.ty k76) → ByteArray → List (K.ty ((9 : TypeId), K.str).snd) → Prop
  | 0, _, _, _, _, _, _, _ => False
  | n + 1, l1, x7, sh0_0, lh0_1, lh0_2, sh0_3, w1 => t49_0 (G49_0 R0 n) R0 (fun l1 x7 sh0_0 lh0_1 lh0_2 sh0_3 w1 => ∃ m, G49_2 (fun l1e7 x7e7 sh0_0e7 lh0_1e7 lh0_2e7 sh0_3e7 w1e7 => t49_0c0x0 (G49_0 R0 n) R0 l1 x7 sh0_0 lh0_1 lh0_2 sh0_3 w1 l1e7 x7e7 sh0_0e7 lh0_1e7 lh0_2e7 sh0_3e7 w1e7) m (l1) (x7) ((0 : Int)) (sh0_0) (lh0_1) (lh0_2) (sh0_3) (w1)) l1 x7 sh0_0 lh0_1 lh0_2 sh0_3 w1
theorem T49_0 {R0 : List (K.ty K.str) → Prop} (Q : Ex → St → Prop) (hr0 : ∀ w0, R0 w0 → Of (Q (Ex.exit (nat_lit 0)) (X49_0_0 w0))) : ∀ (n : Nat) (l1 : List (K.ty K.bool)) (x7 : Int) (sh0_0 : ByteArray) (lh0_1 : List (K.ty k74)) (lh0_2 : List (K.ty k76)) (sh0_3 : ByteArray) (w1 : List (K.ty ((9 : TypeId), K.str).snd)), G49_0 R0 n l1 x7 sh0_0 lh0_1 lh0_2 sh0_3 w1 → Of (loopP (awp tt E49 A49 L49_0 0) ([(1 : Nat), (2 : Nat), (6 : Nat), (7 : Nat)], [(6 : Nat)], [(4 : Nat), (5 : Nat)]) n (S49_0 l1 x7 sh0_0 lh0_1 lh0_2 sh0_3 w1) Q) := by
  intro n
  induction n with
  | zero => intro l1 x7 sh0_0 lh0_1 lh0_2 sh0_3 w1 h; exact h.elim
  | succ n ih =>
    intro l1 x7 sh0_0 lh0_1 lh0_2 sh0_3 w1 h
    exact kcO (t49_0_eq n Q l1 x7 sh0_0 lh0_1 lh0_2 sh0_3 w1) (t49_0_mono (fun _ _ _ _ _ _ _ h => (ih _ _ _ _ _ _ _ h).out) (fun _ h => (hr0 _ h).out) (fun l1 x7 sh0_0 lh0_1 lh0_2 sh0_3 w1 ⟨m, h⟩ => ⟨m, (T49_2 _ (fun l1e7 x7e7 sh0_0e7 lh0_1e7 lh0_2e7 sh0_3e7 w1e7 h => kcO (t49_0c0x0_eq _ _ _ _ _ _ _ _ _ _ _ _ _ _ _ _) (t49_0c0x0_mono (fun _ _ _ _ _ _ _ h => (ih _ _ _ _ _ _ _ h).out) (fun _ h => (hr0 _ h).out) _ _ _ _ _ _ _ _ _ _ _ _ _ _ h)) m _ _ _ _ _ _ _ _ h).out⟩) l1 x7 sh0_0 lh0_1 lh0_2 sh0_3 w1 h)
def t49 (Q : List V1 → List Ob → Prop) (lp0 : K.ty k45 → K.ty (K.slice (4 : TypeId) K.bool) → Prop) (p0 : K.ty k45) (p1 : K.ty (K.slice (4 : TypeId) K.bool)) : Prop :=
  brP ((↑(List.length p1) : Int) != (↑(List.length p0.snd.fst) : Int)) (Q [V1.one (Lf.bool false), V1.one (Lf.int IntKind.i64 (2 : Int))] []) (lp0 p0 p1)
theorem t49_mono {Q : List V1 → List Ob → Prop} {Q' : List V1 → List Ob → Prop} {lp0 : K.ty k45 → K.ty (K.slice (4 : TypeId) K.bool) → Prop} {lp0' : K.ty k45 → K.ty (K.slice (4 : TypeId) K.bool) → Prop} (hq : ∀ r h, Q r h → Q' r h) (hlp0 : ∀ p0 p1, lp0 p0 p1 → lp0' p0 p1) (p0 : K.ty k45) (p1 : K.ty (K.slice (4 : TypeId) K.bool)) :
    t49 Q lp0 p0 p1 → t49 Q' lp0' p0 p1 :=
  brM (hq _ _) (hlp0 _ _)
theorem t49_eq (Q : List V1 → List Ob → Prop) (p0 : K.ty k45) (p1 : K.ty (K.slice (4 : TypeId) K.bool)) :
    t49 Q (fun p0 p1 => ∃ m, loopP (awp tt E49 A49 L49_0 0) ([(1 : Nat), (2 : Nat), (6 : Nat), (7 : Nat)], [(6 : Nat)], [(4 : Nat), (5 : Nat)]) m (S49_0 (p1) ((0 : Int)) (p0.fst) (p0.snd.fst) (p0.snd.snd.fst) (p0.snd.snd.snd) (List.set (List.replicate (1 : Nat) (K.dflt K.str)) (0 : Nat) (ByteArray.mk #[(76 : UInt8)]))) (blkC (0 : Nat) (seqC (awp tt E49 A49 (Code.b (Code.b (Code.b (Code.b (Func.code Try.f49))))) (0 : Nat)) (topC tt Try.f49 0 Q)))) p0 p1 = (afun tt E49 A49 Try.f49 (I49 p0 p1) [] Q) := by kernel_rfl
def t49c0x0 (Q : List V1 → List Ob → Prop) (lp0 : K.ty k45 → K.ty (K.slice (4 : TypeId) K.bool) → List (K.ty K.str) → Prop) (p0 : K.ty k45) (p1 : K.ty (K.slice (4 : TypeId) K.bool)) (w0e2 : List (K.ty K.str)) : Prop :=
  lp0 p0 p1 w0e2
theorem t49c0x0_mono {Q : List V1 → List Ob → Prop} {Q' : List V1 → List Ob → Prop} {lp0 : K.ty k45 → K.ty (K.slice (4 : TypeId) K.bool) → List (K.ty K.str) → Prop} {lp0' : K.ty k45 → K.ty (K.slice (4 : TypeId) K.bool) → List (K.ty K.str) → Prop} (hq : ∀ r h, Q r h → Q' r h) (hlp0 : ∀ p0 p1 w0e2, lp0 p0 p1 w0e2 → lp0' p0 p1 w0e2) (p0 : K.ty k45) (p1 : K.ty (K.slice (4 : TypeId) K.bool)) (w0e2 : List (K.ty K.str)) :
    t49c0x0 Q lp0 p0 p1 w0e2 → t49c0x0 Q' lp0' p0 p1 w0e2 :=
  hlp0 _ _ _
theorem t49c0x0_eq (Q : List V1 → List Ob → Prop) (p0 : K.ty k45) (p1 : K.ty (K.slice (4 : TypeId) K.bool)) (w0e2 : List (K.ty K.str)) :
    t49c0x0 Q (fun p0 p1 w0e2 => ∃ m, loopP (awp tt E49 A49 L49_6 6) ([(6 : Nat), (12 : Nat)], [], [(4 : Nat), (5 : Nat)]) m (S49_6 ((0 : Int)) (w0e2)) (blkC (6 : Nat) (seqC (awp tt E49 A49 (Code.b (Code.b (Code.b (Code.b (Code.b (Func.code Try.f49)))))) (0 : Nat)) (topC tt Try.f49 0 Q)))) p0 p1 w0e2 = ((blkC (0 : Nat) (seqC (awp tt E49 A49 (Code.b (Code.b (Code.b (Code.b (Func.code Try.f49))))) (0 : Nat)) (topC tt Try.f49 0 Q))) (Ex.exit (nat_lit 0)) (X49_0_0 w0e2)) := by kernel_rfl
def t49c0x0c0x1 (Q : List V1 → List Ob → Prop) (p0 : K.ty k45) (p1 : K.ty (K.slice (4 : TypeId) K.bool)) (w0e2 : List (K.ty K.str)) : Prop :=
  Q [V1.one (Lf.bool false), V1.one (Lf.int IntKind.i64 (0 : Int))] []
theorem t49c0x0c0x1_mono {Q : List V1 → List Ob → Prop} {Q' : List V1 → List Ob → Prop} (hq : ∀ r h, Q r h → Q' r h) (p0 : K.ty k45) (p1 : K.ty (K.slice (4 : TypeId) K.bool)) (w0e2 : List (K.ty K.str)) :
    t49c0x0c0x1 Q p0 p1 w0e2 → t49c0x0c0x1 Q' p0 p1 w0e2 :=
  hq _ _
theorem t49c0x0c0x1_eq (Q : List V1 → List Ob → Prop) (p0 : K.ty k45) (p1 : K.ty (K.slice (4 : TypeId) K.bool)) (w0e2 : List (K.ty K.str)) :
    t49c0x0c0x1 Q p0 p1 w0e2 = ((blkC (6 : Nat) (seqC (awp tt E49 A49 (Code.b (Code.b (Code.b (Code.b (Code.b (Func.code Try.f49)))))) (0 : Nat)) (topC tt Try.f49 0 Q))) (Ex.exit (nat_lit 6)) (X49_6_1)) := by kernel_rfl
def t49c0x0c0x0 (Q : List V1 → List Ob → Prop) (p0 : K.ty k45) (p1 : K.ty (K.slice (4 : TypeId) K.bool)) (w0e2 : List (K.ty K.str)) (b4e3 : Bool) (x5e3 : Int) : Prop :=
  Q [V1.one (Lf.bool b4e3), V1.one (Lf.int IntKind.i64 x5e3)] []
theorem t49c0x0c0x0_mono {Q : List V1 → List Ob → Prop} {Q' : List V1 → List Ob → Prop} (hq : ∀ r h, Q r h → Q' r h) (p0 : K.ty k45) (p1 : K.ty (K.slice (4 : TypeId) K.bool)) (w0e2 : List (K.ty K.str)) (b4e3 : Bool) (x5e3 : Int) :
    t49c0x0c0x0 Q p0 p1 w0e2 b4e3 x5e3 → t49c0x0c0x0 Q' p0 p1 w0e2 b4e3 x5e3 :=
  hq _ _
theorem t49c0x0c0x0_eq (Q : List V1 → List Ob → Prop) (p0 : K.ty k45) (p1 : K.ty (K.slice (4 : TypeId) K.bool)) (w0e2 : List (K.ty K.str)) (b4e3 : Bool) (x5e3 : Int) :
    t49c0x0c0x0 Q p0 p1 w0e2 b4e3 x5e3 = ((blkC (6 : Nat) (seqC (awp tt E49 A49 (Code.b (Code.b (Code.b (Code.b (Code.b (Func.code Try.f49)))))) (0 : Nat)) (topC tt Try.f49 0 Q))) (Ex.ret) (X49_6_0 b4e3 x5e3)) := by kernel_rfl
def H49 (Q : List V1 → List Ob → Prop) (p0 : K.ty k45) (p1 : K.ty (K.slice (4 : TypeId) K.bool)) : Prop := t49 Q (fun p0 p1 => ∃ m, G49_0 (fun w0e2 => t49c0x0 Q (fun p0 p1 w0e2 => ∃ m, G49_6 (fun b4e3 x5e3 => t49c0x0c0x0 Q p0 p1 w0e2 b4e3 x5e3) ( t49c0x0c0x1 Q p0 p1 w0e2) m ((0 : Int)) (w0e2)) p0 p1 w0e2) m (p1) ((0 : Int)) (p0.fst) (p0.snd.fst) (p0.snd.snd.fst) (p0.snd.snd.snd) (List.set (List.replicate (1 : Nat) (K.dflt K.str)) (0 : Nat) (ByteArray.mk #[(76 : UInt8)]))) p0 p1
theorem ok49 (Q : List V1 → List Ob → Prop) (p0 : K.ty k45) (p1 : K.ty (K.slice (4 : TypeId) K.bool)) (h : H49 Q p0 p1) : Of (afun tt E49 A49 Try.f49 (I49 p0 p1) [] Q) :=
  kcO (t49_eq Q p0 p1) (t49_mono (fun _ _ h => h) (fun p0 p1 ⟨m, h⟩ => ⟨m, (T49_0 _ (fun w0e2 h => kcO (t49c0x0_eq _ _ _ _) (t49c0x0_mono (fun _ _ h => h) (fun p0 p1 w0e2 ⟨m, h⟩ => ⟨m, (T49_6 _ (fun b4e3 x5e3 h => kcO (t49c0x0c0x0_eq _ _ _ _ _ _) (t49c0x0c0x0_mono (fun _ _ h => h) _ _ _ _ _ h)) (fun h => kcO (t49c0x0c0x1_eq _ _ _ _) (t49c0x0c0x1_mono (fun _ _ h => h) _ _ _ h)) m _ _ h).out⟩) _ _ _ h)) m _ _ _ _ _ _ _ h).out⟩) p0 p1 h)
theorem env49 : EnvOk Try.prog E49 := .nil
theorem loop49d (w : List ByteArray) (R0 : Bool → Int → Prop) (R1 : Prop) (hl : w.length ≤ 4000000000000) : ∀ n (i : Nat), w.length - i < n → (hasB (w.drop i) rnode = true → R0 true 0) → (hasB (w.drop i) rnode = false → R1) → G49_6 R0 R1 n i w := by
  intro n
  induction n with
  | zero => intro i h; omega
  | succ n ih =>
    intro i hn h0 h1
    refine brP_intro (fun d => ?_) (fun d => ?_)
    · have d : i < w.length := by have := of_decide_eq_true d; omega
      rw [getE_cons .str w i d] at h0 h1
      refine ⟨⟨by omega, by omega⟩, ?_⟩
      rw [strEq]
      refine brP_intro (fun e => h0 ?_) (fun e => ?_)
      · have e : decide (getE .str w i = rnode) = true := e
        unfold hasB; rw [List.any_cons, e]; rfl
      · have e : decide (getE .str w i = rnode) = false := e
        unfold hasB at h0 h1
        rw [List.any_cons, e, Bool.false_or] at h0 h1
        rw [wrap_in (by omega) (by omega)]
        exact ih (i + 1) (by omega) h0 h1
    · have d : ¬ i < w.length := by have := of_decide_eq_false d; omega
      rw [List.drop_of_length_le (by omega)] at h1
      exact h1 rfl
theorem loop49c (on : List Bool) (x7 : Int) (cs : List Con) (j : Nat) (hj : j < cs.length) (a : ByteArray) (b : List Coi) (d : ByteArray) (w : List ByteArray) (hl : w.length ≤ 4000000000000)
    (R0 : List Bool → Int → Int → Bool → Bool → ByteArray → List Con → List Coi → ByteArray → List ByteArray → Prop) : ∀ n (i : Nat) (b9 b10 : Bool), w.length - i < n →
      R0 on x7 j (b9 || hasB (w.drop i) (getE k74 cs j).2.2.1) (b10 || hasB (w.drop i) (getE k74 cs j).2.2.2) a cs b d w → G49_4 R0 n on x7 j b9 b10 i a cs b d w := by
  intro n
  induction n with
  | zero => intro i b9 b10 h; omega
  | succ n ih =>
    intro i b9 b10 hn h
    refine brP_intro (fun e => ?_) (fun e => ?_)
    · have e : i < w.length := by have := of_decide_eq_true e; omega
      have hw : IntKind.i64.wrap ((i : Int) + 1) = ((i + 1 : Nat) : Int) := by rw [wrap_in (by omega) (by omega)]; omega
      have bi : bound (i : Int) w.length := ⟨by omega, by omega⟩
      have bj : bound (j : Int) cs.length := ⟨by omega, by omega⟩
      have c1 : hasB (w.drop i) (getE k74 cs j).2.2.1 = (decide (getE .str w i = (getE k74 cs j).2.2.1) || hasB (w.drop (i + 1)) (getE k74 cs j).2.2.1) := by
        rw [getE_cons .str w i e]; rfl
      have c2 : hasB (w.drop i) (getE k74 cs j).2.2.2 = (decide (getE .str w i = (getE k74 cs j).2.2.2) || hasB (w.drop (i + 1)) (getE k74 cs j).2.2.2) := by
        rw [getE_cons .str w i e]; rfl
      rw [c1, c2] at h
      rw [hw, strEq, strEq]
      refine ⟨bi, bj, brP_intro (fun f => ⟨bi, bj, brP_intro (fun g => ?_) (fun g => ?_)⟩) (fun f => ⟨bi, bj, brP_intro (fun g => ?_) (fun g => ?_)⟩)⟩
      all_goals
        refine ih (i + 1) _ _ (by omega) ?_
        have f' : decide (getE .str w i = (getE k74 cs j).2.2.1) = _ := f
        have g' : decide (getE .str w i = (getE k74 cs j).2.2.2) = _ := g
        rw [f', g'] at h
        simpa using h
    · have e : ¬ i < w.length := by have := of_decide_eq_false e; omega
      rw [List.drop_of_length_le (by omega)] at h
      simpa [hasB] using h
theorem loop49b (cs : List Con) (on : List Bool) (hon : on.length = cs.length) (hl : cs.length ≤ 1000000) (x7 : Int) (a : ByteArray) (b : List Coi) (d : ByteArray) (R0 : List Bool → Int → ByteArray → List Con → List Coi → ByteArray → List ByteArray → Prop) :
    ∀ n k (i : Nat) (w : List ByteArray), k < n → i + k = cs.length → w.length + k ≤ 3000000000000 → R0 on x7 a cs b d (satIn (cs.drop i) (on.drop i) w) → G49_2 R0 n on x7 i a cs b d w := by
  intro n
  induction n with
  | zero => intro k i w h; omega
  | succ n ih =>
    intro k i w hk hi hb h
    refine brP_intro (fun e => ?_) (fun e => ?_)
    · have e : i < cs.length := by have := of_decide_eq_true e; omega
      cases k with
      | zero => omega
      | succ k =>
        rw [getE_cons k74 cs i e, getE_cons .bool on i (by omega)] at h
        simp only [satIn] at h
        have hw : IntKind.i64.wrap ((i : Int) + 1) = ((i + 1 : Nat) : Int) := by rw [wrap_in (by omega) (by omega)]; omega
        have skip : R0 on x7 a cs b d (satIn (cs.drop (i + 1)) (on.drop (i + 1)) w) → G49_2 R0 n on x7 (IntKind.i64.wrap ((i : Int) + 1)) a cs b d w := fun h => by
          rw [hw]; exact ih k (i + 1) w (by omega) (by omega) (by omega) h
        refine ⟨⟨by omega, by omega⟩, brP_intro (fun f => ?_) (fun f => ?_)⟩
        · have f : getE .bool on i = false := by have f : (!getE .bool on (i : Int)) = true := f; simpa using f
          rw [f, Bool.false_and] at h
          exact skip h
        · have f : getE .bool on i = true := by have f : (!getE .bool on (i : Int)) = false := f; simpa using f
          rw [f, Bool.true_and] at h
          refine ⟨w.length + 1, loop49c on x7 cs i e a b d w (by omega) _ _ 0 false false (by omega) ?_⟩
          rw [List.drop_zero, Bool.false_or, Bool.false_or]
          refine brP_intro (fun g => brP_intro (fun g2 => ⟨⟨by omega, by omega⟩, ?_, ?_⟩) (fun g2 => ?_)) (fun g => ?_)
          · show (_ + _) * 16 ≤ 140737488355328
            rw [List.length_set, List.length_replicate]; omega
          · rw [g, g2] at h
            rw [hw]
            exact ih k (i + 1) (w ++ [(getE k74 cs i).2.2.2]) (by omega) (by omega) (by rw [List.length_append, List.length_singleton]; omega) h
          · rw [g, g2] at h
            exact skip h
          · rw [g] at h
            exact skip h
    · have e : ¬ i < cs.length := by have := of_decide_eq_false e; omega
      rw [List.drop_of_length_le (by omega)] at h
      simpa [satIn] using h
theorem satIn_len : ∀ (cs : List Con) (on : List Bool) (w : List ByteArray), (satIn cs on w).length ≤ w.length + cs.length
  | [], _, w => Nat.le_refl _
  | _ :: _, [], w => by simp only [satIn]; omega
  | c :: cs, o :: on, w => by
    simp only [satIn, List.length_cons]
    cases (o && (hasB w c.2.2.1 && !hasB w c.2.2.2)) with
    | false => have := satIn_len cs on w; simp only [cond_false]; omega
    | true =>
      have := satIn_len cs on (w ++ [c.2.2.2])
      rw [List.length_append, List.length_singleton] at this
      simp only [cond_true]; omega
theorem loop49a (cs : List Con) (on : List Bool) (hon : on.length = cs.length) (hl : cs.length ≤ 1000000) (a : ByteArray) (b : List Coi) (d : ByteArray) (R0 : List ByteArray → Prop) :
    ∀ n k (j : Nat) (w : List ByteArray), k < n → j + k = on.length + 1 → w.length + k * cs.length ≤ 2000000000000 → R0 (satGo cs on k w) → G49_0 R0 n on j a cs b d w := by
  intro n
  induction n with
  | zero => intro k j w h; omega
  | succ n ih =>
    intro k j w hk hj hb h
    refine brP_intro (fun e => ?_) (fun e => ?_)
    · have e : j ≤ on.length := by have := of_decide_eq_true e; omega
      cases k with
      | zero => omega
      | succ k =>
        rw [Nat.succ_mul] at hb
        have hw : IntKind.i64.wrap ((j : Int) + 1) = ((j + 1 : Nat) : Int) := by rw [wrap_in (by omega) (by omega)]; omega
        have hs := satIn_len cs on w
        refine ⟨cs.length + 1, loop49b cs on hon hl _ a b d _ _ cs.length 0 w (by omega) (by omega) (by omega) ?_⟩
        rw [List.drop_zero, List.drop_zero]
        show G49_0 R0 n on (IntKind.i64.wrap ((j : Int) + 1)) a cs b d (satIn cs on w)
        rw [hw]
        exact ih k (j + 1) _ (by omega) (by omega) (by omega) h
    · have e : ¬ j ≤ on.length := by have := of_decide_eq_false e; omega
      obtain rfl : k = 0 := by omega
      exact h
theorem satGo_len (cs : List Con) (on : List Bool) : ∀ (k : Nat) (w : List ByteArray), (satGo cs on k w).length ≤ w.length + k * cs.length
  | 0, w => by simp [satGo]
  | k + 1, w => by
    have h1 := satGo_len cs on k (satIn cs on w)
    have h2 := satIn_len cs on w
    rw [Nat.succ_mul]
    simp only [satGo]
    omega
theorem spec49 : SpecOk Try.prog 49 sp49 := S2.ok tt_ok mixed env49 Try.func49 fun (r : Rung) (on : List Bool) Q h => ok49 Q r on <| by
  obtain ⟨hl, h⟩ := h
  refine brP_intro (fun e => ?_) (fun e => ?_)
  · have e : ¬ on.length = r.contacts.length := by
      intro h2
      have h3 : on.length = (Prod.fst (Prod.snd r)).length := h2
      rw [h3] at e
      simp at e
    unfold conductsR at h
    rw [decide_eq_false e] at h
    exact h
  · have e : on.length = r.contacts.length := by
      have h3 : ((on.length : Int) = ((Prod.fst (Prod.snd r)).length : Int)) := by simpa using e
      have h4 : on.length = (Prod.fst (Prod.snd r)).length := by omega
      exact h4
    rw [conducts_eq e] at h
    have hm : (on.length + 1) * r.contacts.length ≤ 1000001 * 1000000 := Nat.mul_le_mul (by omega) hl
    have hlen := satGo_len r.contacts on (on.length + 1) [lnode]
    rw [List.length_singleton] at hlen
    refine ⟨on.length + 2, loop49a r.contacts on e hl _ _ _ _ _ (on.length + 1) 0 [lnode] (by omega) (by omega) (by rw [List.length_singleton]; omega) ?_⟩
    refine ⟨(satGo r.contacts on (on.length + 1) [lnode]).length + 1, loop49d _ _ _ (by omega) _ 0 (by omega) (fun f => ?_) (fun f => ?_)⟩
    · rw [List.drop_zero] at f
      rw [f] at h; exact h
    · rw [List.drop_zero] at f
      rw [f] at h; exact h
end Go.AM
namespace Go.AM
open Go.Proofs
-- f50 "busbar/busbarref16.Coils" ['46', '27', '4'] -> ['27', '3']
def A50 : Ann := [(0, [2, 3, 6, 8, 9], [6, 8], [6, 7])]
def E50 : Env := [(10, sp10s), (67, sp67)]
def I50 (p0 : (k45 : K).ty) (p1 : (k26 : K).ty) (p2 : (.bool : K).ty) : List V1 := [nfK k45 p0, nfK k26 p1, nfK .bool p2]
noncomputable def L50_0 : Code := Code.a (Code.a (Code.b (Code.a (Code.b (Code.b (Func.code Try.f50))))))
def S50_0 (b2 : Bool) (x9 : Int) (sh0_0 : ByteArray) (lh0_1 : List (K.ty k74)) (lh0_2 : List (K.ty k76)) (sh0_3 : ByteArray) (lh2_0 : List (K.ty K.bool)) (lh2_1 : List (K.ty K.bool)) (lh2_2 : List (K.ty K.bool)) : St := sp (66 : Nat) [((2 : Nat), V.v (V1.one (Lf.bool b2))), ((3 : Nat), V.v (V1.one (Lf.ptr (nat_lit 0) (nat_lit 0)))), ((6 : Nat), V.v (V1.one (Lf.ptr (nat_lit 1) (nat_lit 0)))), ((8 : Nat), V.v (V1.one (Lf.ptr (nat_lit 2) (nat_lit 0)))), ((9 : Nat), V.v (V1.one (Lf.int IntKind.i64 x9)))] [Ob.box (46 : Nat) [Lf.str sh0_0, Lf.sl (75 : TypeId) k74 lh0_1, Lf.sl (77 : TypeId) k76 lh0_2, Lf.str sh0_3], Ob.box (27 : Nat) [Lf.nils, Lf.nils, Lf.nils], Ob.box (27 : Nat) [Lf.sl (4 : TypeId) K.bool lh2_0, Lf.sl (4 : TypeId) K.bool lh2_1, Lf.sl (4 : TypeId) K.bool lh2_2]]
def X50_0_0 (x7 : Int) : St := sp (66 : Nat) [((6 : Nat), V.v (V1.one (Lf.ptr (nat_lit 0) (nat_lit 0)))), ((7 : Nat), V.v (V1.one (Lf.int IntKind.i64 x7)))] [Ob.box (27 : Nat) [Lf.nils, Lf.nils, Lf.nils]]
def X50_0_1 (lh1_0 : List (K.ty K.bool)) (lh1_1 : List (K.ty K.bool)) (lh1_2 : List (K.ty K.bool)) : St := sp (66 : Nat) [((6 : Nat), V.v (V1.one (Lf.ptr (nat_lit 0) (nat_lit 0)))), ((8 : Nat), V.v (V1.one (Lf.ptr (nat_lit 1) (nat_lit 0))))] [Ob.box (27 : Nat) [Lf.nils, Lf.nils, Lf.nils], Ob.box (27 : Nat) [Lf.sl (4 : TypeId) K.bool lh1_0, Lf.sl (4 : TypeId) K.bool lh1_1, Lf.sl (4 : TypeId) K.bool lh1_2]]
def t50_0 (again : Bool → Int → ByteArray → List (K.ty k74) → List (K.ty k76) → ByteArray → List (K.ty K.bool) → List (K.ty K.bool) → List (K.ty K.bool) → Prop) (R0 : Int → Prop) (R1 : List (K.ty K.bool) → List (K.ty K.bool) → List (K.ty K.bool) → Prop) (b2 : Bool) (x9 : Int) (sh0_0 : ByteArray) (lh0_1 : List (K.ty k74)) (lh0_2 : List (K.ty k76)) (sh0_3 : ByteArray) (lh2_0 : List (K.ty K.bool)) (lh2_1 : List (K.ty K.bool)) (lh2_2 : List (K.ty K.bool)) : Prop :=
  brP (decide (x9 < (↑(List.length lh0_2) : Int))) (bound x9 (List.length lh0_2) ∧ brP (decide ((getE k76 lh0_2 x9).fst < (0 : Int))) (R0 (8 : Int)) (brP (decide ((getE k76 lh0_2 x9).fst > (3 : Int))) (R0 (8 : Int)) (brP ((getE k76 lh0_2 x9).fst == (1 : Int)) (brP ((getE k76 lh0_2 x9).fst == (3 : Int)) (small (lh2_0, lh2_1, lh2_2) ∧ brP ((writeS (lh2_0, lh2_1, lh2_2) (getE k76 lh0_2 x9).snd false).snd != (0 : Int)) (R0 (writeS (lh2_0, lh2_1, lh2_2) (getE k76 lh0_2 x9).snd false).snd) (brP (decide ((getE k76 lh0_2 x9).fst < (2 : Int))) (again b2 (IntKind.wrap IntKind.i64 (x9 + (1 : Int))) sh0_0 lh0_1 lh0_2 sh0_3 (writeS (lh2_0, lh2_1, lh2_2) (getE k76 lh0_2 x9).snd false).fst.fst (writeS (lh2_0, lh2_1, lh2_2) (getE k76 lh0_2 x9).snd false).fst.snd.fst (writeS (lh2_0, lh2_1, lh2_2) (getE k76 lh0_2 x9).snd false).fst.snd.snd) (brP b2 (again b2 (IntKind.wrap IntKind.i64 (x9 + (1 : Int))) sh0_0 lh0_1 lh0_2 sh0_3 (writeS (lh2_0, lh2_1, lh2_2) (getE k76 lh0_2 x9).snd false).fst.fst (writeS (lh2_0, lh2_1, lh2_2) (getE k76 lh0_2 x9).snd false).fst.snd.fst (writeS (lh2_0, lh2_1, lh2_2) (getE k76 lh0_2 x9).snd false).fst.snd.snd) (again b2 (IntKind.wrap IntKind.i64 (x9 + (1 : Int))) sh0_0 lh0_1 lh0_2 sh0_3 lh2_0 lh2_1 lh2_2)))) (small (lh2_0, lh2_1, lh2_2) ∧ brP ((writeS (lh2_0, lh2_1, lh2_2) (getE k76 lh0_2 x9).snd !b2).snd != (0 : Int)) (R0 (writeS (lh2_0, lh2_1, lh2_2) (getE k76 lh0_2 x9).snd !b2).snd) (brP (decide ((getE k76 lh0_2 x9).fst < (2 : Int))) (again b2 (IntKind.wrap IntKind.i64 (x9 + (1 : Int))) sh0_0 lh0_1 lh0_2 sh0_3 (writeS (lh2_0, lh2_1, lh2_2) (getE k76 lh0_2 x9).snd !b2).fst.fst (writeS (lh2_0, lh2_1, lh2_2) (getE k76 lh0_2 x9).snd !b2).fst.snd.fst (writeS (lh2_0, lh2_1, lh2_2) (getE k76 lh0_2 x9).snd !b2).fst.snd.snd) (brP b2 (again b2 (IntKind.wrap IntKind.i64 (x9 + (1 : Int))) sh0_0 lh0_1 lh0_2 sh0_3 (writeS (lh2_0, lh2_1, lh2_2) (getE k76 lh0_2 x9).snd !b2).fst.fst (writeS (lh2_0, lh2_1, lh2_2) (getE k76 lh0_2 x9).snd !b2).fst.snd.fst (writeS (lh2_0, lh2_1, lh2_2) (getE k76 lh0_2 x9).snd !b2).fst.snd.snd) (again b2 (IntKind.wrap IntKind.i64 (x9 + (1 : Int))) sh0_0 lh0_1 lh0_2 sh0_3 lh2_0 lh2_1 lh2_2))))) (brP ((getE k76 lh0_2 x9).fst == (3 : Int)) (small (lh2_0, lh2_1, lh2_2) ∧ brP ((writeS (lh2_0, lh2_1, lh2_2) (getE k76 lh0_2 x9).snd false).snd != (0 : Int)) (R0 (writeS (lh2_0, lh2_1, lh2_2) (getE k76 lh0_2 x9).snd false).snd) (brP (decide ((getE k76 lh0_2 x9).fst < (2 : Int))) (again b2 (IntKind.wrap IntKind.i64 (x9 + (1 : Int))) sh0_0 lh0_1 lh0_2 sh0_3 (writeS (lh2_0, lh2_1, lh2_2) (getE k76 lh0_2 x9).snd false).fst.fst (writeS (lh2_0, lh2_1, lh2_2) (getE k76 lh0_2 x9).snd false).fst.snd.fst (writeS (lh2_0, lh2_1, lh2_2) (getE k76 lh0_2 x9).snd false).fst.snd.snd) (brP b2 (again b2 (IntKind.wrap IntKind.i64 (x9 + (1 : Int))) sh0_0 lh0_1 lh0_2 sh0_3 (writeS (lh2_0, lh2_1, lh2_2) (getE k76 lh0_2 x9).snd false).fst.fst (writeS (lh2_0, lh2_1, lh2_2) (getE k76 lh0_2 x9).snd false).fst.snd.fst (writeS (lh2_0, lh2_1, lh2_2) (getE k76 lh0_2 x9).snd false).fst.snd.snd) (again b2 (IntKind.wrap IntKind.i64 (x9 + (1 : Int))) sh0_0 lh0_1 lh0_2 sh0_3 lh2_0 lh2_1 lh2_2)))) (small (lh2_0, lh2_1, lh2_2) ∧ brP ((writeS (lh2_0, lh2_1, lh2_2) (getE k76 lh0_2 x9).snd b2).snd != (0 : Int)) (R0 (writeS (lh2_0, lh2_1, lh2_2) (getE k76 lh0_2 x9).snd b2).snd) (brP (decide ((getE k76 lh0_2 x9).fst < (2 : Int))) (again b2 (IntKind.wrap IntKind.i64 (x9 + (1 : Int))) sh0_0 lh0_1 lh0_2 sh0_3 (writeS (lh2_0, lh2_1, lh2_2) (getE k76 lh0_2 x9).snd b2).fst.fst (writeS (lh2_0, lh2_1, lh2_2) (getE k76 lh0_2 x9).snd b2).fst.snd.fst (writeS (lh2_0, lh2_1, lh2_2) (getE k76 lh0_2 x9).snd b2).fst.snd.snd) (brP b2 (again b2 (IntKind.wrap IntKind.i64 (x9 + (1 : Int))) sh0_0 lh0_1 lh0_2 sh0_3 (writeS (lh2_0, lh2_1, lh2_2) (getE k76 lh0_2 x9).snd b2).fst.fst (writeS (lh2_0, lh2_1, lh2_2) (getE k76 lh0_2 x9).snd b2).fst.snd.fst (writeS (lh2_0, lh2_1, lh2_2) (getE k76 lh0_2 x9).snd b2).fst.snd.snd) (again b2 (IntKind.wrap IntKind.i64 (x9 + (1 : Int))) sh0_0 lh0_1 lh0_2 sh0_3 lh2_0 lh2_1 lh2_2)))))))) (R1 lh2_0 lh2_1 lh2_2)
theorem t50_0_mono {again : Bool → Int → ByteArray → List (K.ty k74) → List (K.ty k76) → ByteArray → List (K.ty K.bool) → List (K.ty K.bool) → List (K.ty K.bool) → Prop} {R0 : Int → Prop} {R1 : List (K.ty K.bool) → List (K.ty K.bool) → List (K.ty K.bool) → Prop} {again' : Bool → Int → ByteArray → List (K.ty k74) → List (K.ty k76) → ByteArray → List (K.ty K.bool) → List (K.ty K.bool) → List (K.ty K.bool) → Prop} {R0' : Int → Prop} {R1' : List (K.ty K.bool) → List (K.ty K.bool) → List (K.ty K.bool) → Prop} (ha : ∀ b2 x9 sh0_0 lh0_1 lh0_2 sh0_3 lh2_0 lh2_1 lh2_2, again b2 x9 sh0_0 lh0_1 lh0_2 sh0_3 lh2_0 lh2_1 lh2_2 → again' b2 x9 sh0_0 lh0_1 lh0_2 sh0_3 lh2_0 lh2_1 lh2_2) (hr0 : ∀ x7, R0 x7 → R0' x7) (hr1 : ∀ lh1_0 lh1_1 lh1_2, R1 lh1_0 lh1_1 lh1_2 → R1' lh1_0 lh1_1 lh1_2) (b2 : Bool) (x9 : Int) (sh0_0 : ByteArray) (lh0_1 : List (K.ty k74)) (lh0_2 : List (K.ty k76)) (sh0_3 : ByteArray) (lh2_0 : List (K.ty K.bool)) (lh2_1 : List (K.ty K.bool)) (lh2_2 : List (K.ty K.bool)) :
    t50_0 again R0 R1 b2 x9 sh0_0 lh0_1 lh0_2 sh0_3 lh2_0 lh2_1 lh2_2 → t50_0 again' R0' R1' b2 x9 sh0_0 lh0_1 lh0_2 sh0_3 lh2_0 lh2_1 lh2_2 :=
  brM (andM (id) (brM (hr0 _) (brM (hr0 _) (brM (brM (andM (id) (brM (hr0 _) (brM (ha _ _ _ _ _ _ _ _ _) (brM (ha _ _ _ _ _ _ _ _ _) (ha _ _ _ _ _ _ _ _ _))))) (andM (id) (brM (hr0 _) (brM (ha _ _ _ _ _ _ _ _ _) (brM (ha _ _ _ _ _ _ _ _ _) (ha _ _ _ _ _ _ _ _ _)))))) (brM (andM (id) (brM (hr0 _) (brM (ha _ _ _ _ _ _ _ _ _) (brM (ha _ _ _ _ _ _ _ _ _) (ha _ _ _ _ _ _ _ _ _))))) (andM (id) (brM (hr0 _) (brM (ha _ _ _ _ _ _ _ _ _) (brM (ha _ _ _ _ _ _ _ _ _) (ha _ _ _ _ _ _ _ _ _)))))))))) (hr1 _ _ _)
theorem t50_0_eq (n : Nat) (Q : Ex → St → Prop) (b2 : Bool) (x9 : Int) (sh0_0 : ByteArray) (lh0_1 : List (K.ty k74)) (lh0_2 : List (K.ty k76)) (sh0_3 : ByteArray) (lh2_0 : List (K.ty K.bool)) (lh2_1 : List (K.ty K.bool)) (lh2_2 : List (K.ty K.bool)) :
    t50_0 (fun b2 x9 sh0_0 lh0_1 lh0_2 sh0_3 lh2_0 lh2_1 lh2_2 => loopP (awp tt E50 A50 L50_0 0) ([(2 : Nat), (3 : Nat), (6 : Nat), (8 : Nat), (9 : Nat)], [(6 : Nat), (8 : Nat)], [(6 : Nat), (7 : Nat)]) n (S50_0 b2 x9 sh0_0 lh0_1 lh0_2 sh0_3 lh2_0 lh2_1 lh2_2) Q) (fun x7 => Q (Ex.ret) (X50_0_0 x7)) (fun lh1_0 lh1_1 lh1_2 => Q (Ex.exit (nat_lit 0)) (X50_0_1 lh1_0 lh1_1 lh1_2)) b2 x9 sh0_0 lh0_1 lh0_2 sh0_3 lh2_0 lh2_1 lh2_2 = (loopP (awp tt E50 A50 L50_0 0) ([(2 : Nat), (3 : Nat), (6 : Nat), (8 : Nat), (9 : Nat)], [(6 : Nat), (8 : Nat)], [(6 : Nat), (7 : Nat)]) (n + 1) (S50_0 b2 x9 sh0_0 lh0_1 lh0_2 sh0_3 lh2_0 lh2_1 lh2_2) Q) := by kernel_rfl
def G50_0 (R0 : Int → Prop) (R1 : List (K.ty K.bool) → List (K.ty K.bool) → List (K.ty K.bool) → Prop) : Nat → Bool → Int → ByteArray → List (K.ty k74) → List (K.ty k76) → ByteArray → List (K.ty K.bool) → List (K.ty K.bool) → List (K.ty K.bool) → Prop
  | 0, _, _, _, _, _, _, _, _, _ => False
  | n + 1, b2, x9, sh0_0, lh0_1, lh0_2, sh0_3, lh2_0, lh2_1, lh2_2 => t50_0 (G50_0 R0 R1 n) R0 R1 b2 x9 sh0_0 lh0_1 lh0_2 sh0_3 lh2_0 lh2_1 lh2_2
theorem T50_0 {R0 : Int → Prop} {R1 : List (K.ty K.bool) → List (K.ty K.bool) → List (K.ty K.bool) → Prop} (Q : Ex → St → Prop) (hr0 : ∀ x7, R0 x7 → Of (Q (Ex.ret) (X50_0_0 x7))) (hr1 : ∀ lh1_0 lh1_1 lh1_2, R1 lh1_0 lh1_1 lh1_2 → Of (Q (Ex.exit (nat_lit 0)) (X50_0_1 lh1_0 lh1_1 lh1_2))) : ∀ (n : Nat) (b2 : Bool) (x9 : Int) (sh0_0 : ByteArray) (lh0_1 : List (K.ty k74)) (lh0_2 : List (K.ty k76)) (sh0_3 : ByteArray) (lh2_0 : List (K.ty K.bool)) (lh2_1 : List (K.ty K.bool)) (lh2_2 : List (K.ty K.bool)), G50_0 R0 R1 n b2 x9 sh0_0 lh0_1 lh0_2 sh0_3 lh2_0 lh2_1 lh2_2 → Of (loopP (awp tt E50 A50 L50_0 0) ([(2 : Nat), (3 : Nat), (6 : Nat), (8 : Nat), (9 : Nat)], [(6 : Nat), (8 : Nat)], [(6 : Nat), (7 : Nat)]) n (S50_0 b2 x9 sh0_0 lh0_1 lh0_2 sh0_3 lh2_0 lh2_1 lh2_2) Q) := by
  intro n
  induction n with
  | zero => intro b2 x9 sh0_0 lh0_1 lh0_2 sh0_3 lh2_0 lh2_1 lh2_2 h; exact h.elim
  | succ n ih =>
    intro b2 x9 sh0_0 lh0_1 lh0_2 sh0_3 lh2_0 lh2_1 lh2_2 h
    exact kcO (t50_0_eq n Q b2 x9 sh0_0 lh0_1 lh0_2 sh0_3 lh2_0 lh2_1 lh2_2) (t50_0_mono (fun _ _ _ _ _ _ _ _ _ h => (ih _ _ _ _ _ _ _ _ _ h).out) (fun _ h => (hr0 _ h).out) (fun _ _ _ h => (hr1 _ _ _ h).out) b2 x9 sh0_0 lh0_1 lh0_2 sh0_3 lh2_0 lh2_1 lh2_2 h)
def t50 (Q : List V1 → List Ob → Prop) (lp0 : K.ty k45 → K.ty k26 → K.ty K.bool → Prop) (p0 : K.ty k45) (p1 : K.ty k26) (p2 : K.ty K.bool) : Prop :=
  small p1 ∧ lp0 p0 p1 p2
theorem t50_mono {Q : List V1 → List Ob → Prop} {Q' : List V1 → List Ob → Prop} {lp0 : K.ty k45 → K.ty k26 → K.ty K.bool → Prop} {lp0' : K.ty k45 → K.ty k26 → K.ty K.bool → Prop} (hq : ∀ r h, Q r h → Q' r h) (hlp0 : ∀ p0 p1 p2, lp0 p0 p1 p2 → lp0' p0 p1 p2) (p0 : K.ty k45) (p1 : K.ty k26) (p2 : K.ty K.bool) :
    t50 Q lp0 p0 p1 p2 → t50 Q' lp0' p0 p1 p2 :=
  andM (id) (hlp0 _ _ _)
theorem t50_eq (Q : List V1 → List Ob → Prop) (p0 : K.ty k45) (p1 : K.ty k26) (p2 : K.ty K.bool) :
    t50 Q (fun p0 p1 p2 => ∃ m, loopP (awp tt E50 A50 L50_0 0) ([(2 : Nat), (3 : Nat), (6 : Nat), (8 : Nat), (9 : Nat)], [(6 : Nat), (8 : Nat)], [(6 : Nat), (7 : Nat)]) m (S50_0 (p2) ((0 : Int)) (p0.fst) (p0.snd.fst) (p0.snd.snd.fst) (p0.snd.snd.snd) (p1.fst) (p1.snd.fst) (p1.snd.snd)) (blkC (0 : Nat) (seqC (awp tt E50 A50 (Code.b (Code.b (Code.b (Func.code Try.f50)))) (0 : Nat)) (topC tt Try.f50 0 Q)))) p0 p1 p2 = (afun tt E50 A50 Try.f50 (I50 p0 p1 p2) [] Q) := by kernel_rfl
def t50c0x1 (Q : List V1 → List Ob → Prop) (p0 : K.ty k45) (p1 : K.ty k26) (p2 : K.ty K.bool) (lh1_0e3 : List (K.ty K.bool)) (lh1_1e3 : List (K.ty K.bool)) (lh1_2e3 : List (K.ty K.bool)) : Prop :=
  Q [V1.agg [Lf.sl (4 : TypeId) K.bool lh1_0e3, Lf.sl (4 : TypeId) K.bool lh1_1e3, Lf.sl (4 : TypeId) K.bool lh1_2e3], V1.one (Lf.int IntKind.i64 (0 : Int))] []
theorem t50c0x1_mono {Q : List V1 → List Ob → Prop} {Q' : List V1 → List Ob → Prop} (hq : ∀ r h, Q r h → Q' r h) (p0 : K.ty k45) (p1 : K.ty k26) (p2 : K.ty K.bool) (lh1_0e3 : List (K.ty K.bool)) (lh1_1e3 : List (K.ty K.bool)) (lh1_2e3 : List (K.ty K.bool)) :
    t50c0x1 Q p0 p1 p2 lh1_0e3 lh1_1e3 lh1_2e3 → t50c0x1 Q' p0 p1 p2 lh1_0e3 lh1_1e3 lh1_2e3 :=
  hq _ _
theorem t50c0x1_eq (Q : List V1 → List Ob → Prop) (p0 : K.ty k45) (p1 : K.ty k26) (p2 : K.ty K.bool) (lh1_0e3 : List (K.ty K.bool)) (lh1_1e3 : List (K.ty K.bool)) (lh1_2e3 : List (K.ty K.bool)) :
    t50c0x1 Q p0 p1 p2 lh1_0e3 lh1_1e3 lh1_2e3 = ((blkC (0 : Nat) (seqC (awp tt E50 A50 (Code.b (Code.b (Code.b (Func.code Try.f50)))) (0 : Nat)) (topC tt Try.f50 0 Q))) (Ex.exit (nat_lit 0)) (X50_0_1 lh1_0e3 lh1_1e3 lh1_2e3)) := by kernel_rfl
def t50c0x0 (Q : List V1 → List Ob → Prop) (p0 : K.ty k45) (p1 : K.ty k26) (p2 : K.ty K.bool) (x7e3 : Int) : Prop :=
  Q [V1.agg [Lf.nils, Lf.nils, Lf.nils], V1.one (Lf.int IntKind.i64 x7e3)] []
theorem t50c0x0_mono {Q : List V1 → List Ob → Prop} {Q' : List V1 → List Ob → Prop} (hq : ∀ r h, Q r h → Q' r h) (p0 : K.ty k45) (p1 : K.ty k26) (p2 : K.ty K.bool) (x7e3 : Int) :
    t50c0x0 Q p0 p1 p2 x7e3 → t50c0x0 Q' p0 p1 p2 x7e3 :=
  hq _ _
theorem t50c0x0_eq (Q : List V1 → List Ob → Prop) (p0 : K.ty k45) (p1 : K.ty k26) (p2 : K.ty K.bool) (x7e3 : Int) :
    t50c0x0 Q p0 p1 p2 x7e3 = ((blkC (0 : Nat) (seqC (awp tt E50 A50 (Code.b (Code.b (Code.b (Func.code Try.f50)))) (0 : Nat)) (topC tt Try.f50 0 Q))) (Ex.ret) (X50_0_0 x7e3)) := by kernel_rfl
def H50 (Q : List V1 → List Ob → Prop) (p0 : K.ty k45) (p1 : K.ty k26) (p2 : K.ty K.bool) : Prop := t50 Q (fun p0 p1 p2 => ∃ m, G50_0 (fun x7e3 => t50c0x0 Q p0 p1 p2 x7e3) (fun lh1_0e3 lh1_1e3 lh1_2e3 => t50c0x1 Q p0 p1 p2 lh1_0e3 lh1_1e3 lh1_2e3) m (p2) ((0 : Int)) (p0.fst) (p0.snd.fst) (p0.snd.snd.fst) (p0.snd.snd.snd) (p1.fst) (p1.snd.fst) (p1.snd.snd)) p0 p1 p2
theorem ok50 (Q : List V1 → List Ob → Prop) (p0 : K.ty k45) (p1 : K.ty k26) (p2 : K.ty K.bool) (h : H50 Q p0 p1 p2) : Of (afun tt E50 A50 Try.f50 (I50 p0 p1 p2) [] Q) :=
  kcO (t50_eq Q p0 p1 p2) (t50_mono (fun _ _ h => h) (fun p0 p1 p2 ⟨m, h⟩ => ⟨m, (T50_0 _ (fun x7e3 h => kcO (t50c0x0_eq _ _ _ _ _) (t50c0x0_mono (fun _ _ h => h) _ _ _ _ h)) (fun lh1_0e3 lh1_1e3 lh1_2e3 h => kcO (t50c0x1_eq _ _ _ _ _ _ _) (t50c0x1_mono (fun _ _ h => h) _ _ _ _ _ _ h)) m _ _ _ _ _ _ _ _ _ h).out⟩) p0 p1 p2 h)
theorem env50 : EnvOk Try.prog E50 := .cons spec10s (by kernel_rfl) <| .cons spec67 (by kernel_rfl) <| .nil
theorem writes_facts (k : Int) (on : Bool) (h0 : decide (k < 0) = false) (h3 : decide (k > 3) = false) : (writes k on).2 = (decide (k < 2) || on) ∧ (k = 1 → writes k on = (!on, true)) ∧ (k = 3 → writes k on = (false, on)) ∧ (¬ k = 1 → ¬ k = 3 → (writes k on).2 = true → on = (writes k on).1) := by
  have h0 : ¬ k < 0 := of_decide_eq_false h0
  have h3 : ¬ k > 3 := of_decide_eq_false h3
  have hk : k = 0 ∨ k = 1 ∨ k = 2 ∨ k = 3 := by omega
  rcases hk with rfl | rfl | rfl | rfl <;> cases on <;> decide
theorem writeS_err (s : Sta) (a : k72.ty) (v u : Bool) : (writeS s a v).2 = (writeS s a u).2 := by
  have e : ∀ l : List Bool, (setI l a.2 v).2 = (setI l a.2 u).2 := fun l => by unfold setI; cases isIn l.length a.2 <;> rfl
  have e1 := e s.1
  have e2 := e s.2.1
  unfold writeS
  rw [e1, e2]
  cases a.1 == 1 <;> cases (setI s.1 a.2 u).2 != 0 <;> cases a.1 == 2 <;> cases (setI s.2.1 a.2 u).2 != 0 <;> rfl
theorem loop50 (on : Bool) (cs : List Coi) (x1 : ByteArray) (x2 : List Con) (x4 : ByteArray) (R0 : Int → Prop) (R1 : List Bool → List Bool → List Bool → Prop) (hl : cs.length ≤ 1000000) :
    ∀ n k (i : Nat) (s : Sta), k < n → i + k = cs.length → small s →
      ((coilGo on (cs.drop i) s).2 ≠ 0 → R0 (coilGo on (cs.drop i) s).2) →
      ((coilGo on (cs.drop i) s).2 = 0 → R1 (coilGo on (cs.drop i) s).1.1 (coilGo on (cs.drop i) s).1.2.1 (coilGo on (cs.drop i) s).1.2.2) →
      G50_0 R0 R1 n on i x1 x2 cs x4 s.1 s.2.1 s.2.2 := by
  intro n
  induction n with
  | zero => intro k i s h; omega
  | succ n ih =>
    intro k i s hk hi hs h0 h1
    refine brP_intro (fun d => ?_) (fun d => ?_)
    · have d : i < cs.length := by simpa using d
      cases k with
      | zero => omega
      | succ k =>
        rw [getE_cons k76 cs i d] at h0 h1
        simp only [coilGo] at h0 h1
        refine ⟨⟨by omega, by omega⟩, brP_intro (fun a => ?_) (fun a => brP_intro (fun b => ?_) (fun b => ?_))⟩
        · simp only [a, cond_true] at h0; exact h0 (by decide)
        · have b1 : decide ((getE k76 cs i).1 ≥ 4) = true := by
            have b : (getE k76 cs i).1 > (3 : Int) := of_decide_eq_true b
            exact decide_eq_true (show (getE k76 cs i).1 ≥ (4 : Int) from b)
          simp only [a, b1, cond_true, cond_false] at h0; exact h0 (by decide)
        have b1 : decide ((getE k76 cs i).1 ≥ 4) = false := by
          have b : ¬ (getE k76 cs i).1 > (3 : Int) := of_decide_eq_false b
          exact decide_eq_false (fun h : (getE k76 cs i).1 ≥ (4 : Int) => b h)
        simp only [a, b1, cond_false] at h0 h1
        have hw : IntKind.i64.wrap ((i : Int) + 1) = ((i + 1 : Nat) : Int) := by rw [wrap_in (by omega) (by omega)]; omega
        rw [hw]
        obtain ⟨f1, f2, f3, f4⟩ := writes_facts (getE k76 cs i).1 on a b
        have core : ∀ v : Bool, ((writes (getE k76 cs i).1 on).2 = true → v = (writes (getE k76 cs i).1 on).1) → small s ∧ brP ((writeS s (getE k76 cs i).2 v).2 != 0) (R0 (writeS s (getE k76 cs i).2 v).2)
            (brP (decide ((getE k76 cs i).1 < (2 : Int))) (G50_0 R0 R1 n on ((i + 1 : Nat) : Int) x1 x2 cs x4 (writeS s (getE k76 cs i).2 v).1.1 (writeS s (getE k76 cs i).2 v).1.2.1 (writeS s (getE k76 cs i).2 v).1.2.2)
              (brP on (G50_0 R0 R1 n on ((i + 1 : Nat) : Int) x1 x2 cs x4 (writeS s (getE k76 cs i).2 v).1.1 (writeS s (getE k76 cs i).2 v).1.2.1 (writeS s (getE k76 cs i).2 v).1.2.2) (G50_0 R0 R1 n on ((i + 1 : Nat) : Int) x1 x2 cs x4 s.1 s.2.1 s.2.2))) := by
          intro v hv
          have he := writeS_err s (getE k76 cs i).2 v (writes (getE k76 cs i).1 on).1
          refine ⟨hs, brP_intro (fun c => ?_) (fun c => ?_)⟩
          · rw [he] at c ⊢
            simp only [c, cond_true] at h0
            exact h0 (by simpa using c)
          · rw [he] at c
            simp only [c, cond_false] at h0 h1
            have go : (writes (getE k76 cs i).1 on).2 = true → G50_0 R0 R1 n on ((i + 1 : Nat) : Int) x1 x2 cs x4 (writeS s (getE k76 cs i).2 v).1.1 (writeS s (getE k76 cs i).2 v).1.2.1 (writeS s (getE k76 cs i).2 v).1.2.2 := fun hw2 => by
              rw [hw2] at h0 h1
              rw [hv hw2]
              exact ih k (i + 1) _ (by omega) (by omega) (small_write hs _ _) h0 h1
            refine brP_intro (fun g => go (by rw [f1, g]; rfl)) (fun g => brP_intro (fun g2 => go (by rw [f1, g2]; simp)) (fun g2 => ?_))
            have hf : (writes (getE k76 cs i).1 on).2 = false := by rw [f1, g, g2]; rfl
            rw [hf] at h0 h1
            exact ih k (i + 1) s (by omega) (by omega) hs h0 h1
        refine brP_intro (fun c => ?_) (fun c => ?_)
        · have c : (getE k76 cs i).1 = (1 : Int) := eq_of_beq c
          refine brP_intro (fun e => ?_) (fun _ => core (!on) fun _ => by rw [f2 c])
          have e : (getE k76 cs i).1 = (3 : Int) := eq_of_beq e
          rw [c] at e
          cases e
        · have c : ¬ (getE k76 cs i).1 = (1 : Int) := fun h => by rw [h] at c; cases c
          refine brP_intro (fun e => core false fun _ => by rw [f3 (eq_of_beq e)]) (fun e => core on fun hh => ?_)
          exact f4 c (fun h => by rw [h] at e; cases e) hh
    · have d : ¬ i < cs.length := by simpa using d
      obtain rfl : k = 0 := by omega
      rw [List.drop_of_length_le (by omega)] at h1
      exact h1 rfl
theorem spec50 : SpecOk Try.prog 50 sp50 := S3.okS tt_ok mixed [k26, ki] env50 Try.func50 fun (r : Rung) (st : Sta) (on : Bool) Q h => ok50 _ r st on <| by
  obtain ⟨⟨hs, hl⟩, h⟩ := h
  have hlen := loop50 on r.coils r.1 r.2.1 r.2.2.2 (fun x => t50c0x0 (SQ [k26, ki] Q) r st on x) (fun a b c => t50c0x1 (SQ [k26, ki] Q) r st on a b c) hl (r.coils.length + 1) r.coils.length 0 st
    (by omega) (by omega) hs (fun h0 => ?_) (fun h0 => ?_)
  · exact ⟨hs, _, hlen⟩
  · rw [List.drop_zero] at h0 ⊢
    rw [coilGo_zero on _ _ h0] at h
    exact h
  · rw [List.drop_zero] at h0 ⊢
    rw [h0] at h
    exact h
end Go.AM
namespace Go.AM
open Go.Proofs
-- f29 "busbar/busbarref16.Scan" ['46', '25', '27', '3'] -> ['27', '4', '3']
def A29 : Ann := []
def E29 : Env := [(48, sp48), (49, sp49), (50, sp50)]
def I29 (p0 : (k45 : K).ty) (p1 : ((.slice 4 .bool) : K).ty) (p2 : (k26 : K).ty) (p3 : ((.int .i64) : K).ty) : List V1 := [nfK k45 p0, nfK (.slice 4 .bool) p1, nfK k26 p2, nfK (.int .i64) p3]
def t29 (Q : List V1 → List Ob → Prop) (p0 : K.ty k45) (p1 : K.ty (K.slice (4 : TypeId) K.bool)) (p2 : K.ty k26) (p3 : K.ty (K.int IntKind.i64)) : Prop :=
  (small p2 ∧ List.length (Rung.contacts p0) ≤ (1000000 : Nat)) ∧ brP ((contactsR p0 p1 p2 p3).snd.snd != (0 : Int)) (Q [V1.agg [Lf.nils, Lf.nils, Lf.nils], V1.one (Lf.bool false), V1.one (Lf.int IntKind.i64 (contactsR p0 p1 p2 p3).snd.snd)] []) (List.length (Rung.contacts p0) ≤ (1000000 : Nat) ∧ (small (contactsR p0 p1 p2 p3).snd.fst ∧ List.length (Rung.coils p0) ≤ (1000000 : Nat)) ∧ brP ((coilGo (conductsR p0 (contactsR p0 p1 p2 p3).fst).fst (Rung.coils p0) (contactsR p0 p1 p2 p3).snd.fst).snd != (0 : Int)) (Q [V1.agg [Lf.nils, Lf.nils, Lf.nils], V1.one (Lf.bool false), V1.one (Lf.int IntKind.i64 (coilGo (conductsR p0 (contactsR p0 p1 p2 p3).fst).fst (Rung.coils p0) (contactsR p0 p1 p2 p3).snd.fst).snd)] []) (Q [V1.agg [Lf.sl (4 : TypeId) K.bool (coilGo (conductsR p0 (contactsR p0 p1 p2 p3).fst).fst (Rung.coils p0) (contactsR p0 p1 p2 p3).snd.fst).fst.fst, Lf.sl (4 : TypeId) K.bool (coilGo (conductsR p0 (contactsR p0 p1 p2 p3).fst).fst (Rung.coils p0) (contactsR p0 p1 p2 p3).snd.fst).fst.snd.fst, Lf.sl (4 : TypeId) K.bool (coilGo (conductsR p0 (contactsR p0 p1 p2 p3).fst).fst (Rung.coils p0) (contactsR p0 p1 p2 p3).snd.fst).fst.snd.snd], V1.one (Lf.bool (conductsR p0 (contactsR p0 p1 p2 p3).fst).fst), V1.one (Lf.int IntKind.i64 (0 : Int))] []))
theorem t29_mono {Q : List V1 → List Ob → Prop} {Q' : List V1 → List Ob → Prop} (hq : ∀ r h, Q r h → Q' r h) (p0 : K.ty k45) (p1 : K.ty (K.slice (4 : TypeId) K.bool)) (p2 : K.ty k26) (p3 : K.ty (K.int IntKind.i64)) :
    t29 Q p0 p1 p2 p3 → t29 Q' p0 p1 p2 p3 :=
  andM (andM (id) (id)) (brM (hq _ _) (andM (id) (andM (andM (id) (id)) (brM (hq _ _) (hq _ _)))))
theorem t29_eq (Q : List V1 → List Ob → Prop) (p0 : K.ty k45) (p1 : K.ty (K.slice (4 : TypeId) K.bool)) (p2 : K.ty k26) (p3 : K.ty (K.int IntKind.i64)) :
    t29 Q p0 p1 p2 p3 = (afun tt E29 A29 Try.f29 (I29 p0 p1 p2 p3) [] Q) := by kernel_rfl
def H29 (Q : List V1 → List Ob → Prop) (p0 : K.ty k45) (p1 : K.ty (K.slice (4 : TypeId) K.bool)) (p2 : K.ty k26) (p3 : K.ty (K.int IntKind.i64)) : Prop := t29 Q p0 p1 p2 p3
theorem ok29 (Q : List V1 → List Ob → Prop) (p0 : K.ty k45) (p1 : K.ty (K.slice (4 : TypeId) K.bool)) (p2 : K.ty k26) (p3 : K.ty (K.int IntKind.i64)) (h : H29 Q p0 p1 p2 p3) : Of (afun tt E29 A29 Try.f29 (I29 p0 p1 p2 p3) [] Q) :=
  kcO (t29_eq Q p0 p1 p2 p3) (t29_mono (fun _ _ h => h) p0 p1 p2 p3 h)
theorem env29 : EnvOk Try.prog E29 := .cons spec48 (by kernel_rfl) <| .cons spec49 (by kernel_rfl) <| .cons spec50 (by kernel_rfl) <| .nil
theorem conGo_on (inp : List Bool) (st : Sta) : ∀ (cs : List Con) (slot : Int) (e on : List Bool), (conGo inp st cs slot e on).2.2 = 0 → (conGo inp st cs slot e on).1.length = on.length + cs.length
  | [], slot, e, on, _ => rfl
  | c :: r, slot, e, on, h => by
    simp only [conGo] at h ⊢
    cases h1 : decide (c.1 < 0) with
    | true => simp [h1] at h
    | false =>
      cases h2 : decide (c.1 ≥ 4) with
      | true => simp [h1, h2] at h
      | false =>
        cases h3 : (readS inp st c.2.1).2 != 0 with
        | true => simp only [h1, h2, h3, cond_true, cond_false] at h; rw [h] at h3; cases h3
        | false =>
          cases h4 : isEdge c with
          | true =>
            cases h5 : decide (slot < 0) with
            | true => simp [h1, h2, h3, h4, h5] at h
            | false =>
              cases h6 : decide (slot ≥ (e.length : Int)) with
              | true => simp [h1, h2, h3, h4, h5, h6] at h
              | false =>
                simp only [h1, h2, h3, h4, h5, h6, cond_true, cond_false] at h ⊢
                rw [conGo_on inp st r _ _ _ h, List.length_append, List.length_singleton, List.length_cons]
                omega
          | false =>
            simp only [h1, h2, h3, h4, cond_false] at h ⊢
            rw [conGo_on inp st r _ _ _ h, List.length_append, List.length_singleton, List.length_cons]
            omega
theorem contacts_on {r : Rung} {inp : List Bool} {st : Sta} {slot : Int} (h : ((contactsR r inp st slot).2.2 != 0) = false) : (conductsR r (contactsR r inp st slot).1).2 = 0 := by
  have hl : (contactsR r inp st slot).1.length = r.contacts.length := by
    unfold contactsR at h ⊢
    cases hc : (conGo inp st r.contacts slot st.2.2 []).2.2 != 0 with
    | true => rw [hc] at h; simp only [cond_true] at h; rw [hc] at h; cases h
    | false =>
      simp only [cond_false]
      have := conGo_on inp st r.contacts slot st.2.2 [] (by simpa using hc)
      simpa using this
  unfold conductsR
  rw [decide_eq_true hl]; rfl
theorem spec29 : SpecOk Try.prog 29 sp29 := S4.okS tt_ok mixed [k26, .bool, ki] env29 Try.func29 fun (r : Rung) (inp : List Bool) (st : Sta) (slot : Int) Q h => ok29 _ r inp st slot <| by
  obtain ⟨⟨hs, hc, hk⟩, h⟩ := h
  unfold scanR at h
  refine ⟨⟨hs, hc⟩, brP_intro (fun a => by simp only [a, cond_true] at h; exact h) (fun a => ⟨hc, ⟨small_contacts hs r inp slot, hk⟩, ?_⟩)⟩
  have b : ((conductsR r (contactsR r inp st slot).1).2 != 0) = false := by rw [contacts_on a]; rfl
  exact brP_intro (fun c => by simp only [a, b, c, cond_true, cond_false] at h; exact h) (fun c => by simp only [a, b, c, cond_false] at h; exact h)
end Go.AM
namespace Go.AM
open Go.Proofs
theorem rungE_parts {s : k59.ty} {a : List Rung} {r : Rung} (h : rungE s a r = 0) : consE s r.contacts = 0 ∧ coisE s r.coils = 0 := by
  unfold rungE at h
  cases h1 : (!decide (r.label = str0) && !isName r.label) with
  | true => simp [h1] at h
  | false =>
    cases h2 : (!decide (r.label = str0) && decide (0 ≤ idxP (fun x => decide (Rung.label x = r.label)) a 0)) with
    | true => simp [h1, h2] at h
    | false =>
      simp only [h1, h2, cond_false] at h
      unfold rungE2 at h
      cases h3 : decide (r.contacts.length > 256) with
      | true => simp [h3] at h
      | false =>
        cases h4 : (consE s r.contacts != 0) with
        | true =>
          simp only [h3, h4, cond_true, cond_false] at h
          rw [h] at h4; cases h4
        | false =>
          cases h5 : decide (r.coils.length > 16) with
          | true => simp [h3, h4, h5] at h
          | false =>
            cases h6 : (coisE s r.coils != 0) with
            | true =>
              simp only [h3, h4, h5, h6, cond_true, cond_false] at h
              rw [h] at h6; cases h6
            | false => exact ⟨by simpa using h4, by simpa using h6⟩
theorem rungs_ok {l : Lad} (h : (checkL l).2 = 0) : checkSize (sizesOf l) = 0 ∧ ∀ i, i < l.rungs.length → rungE (sizesOf l) (l.rungs.take i) (getE k45 l.rungs i) = 0 := by
  unfold checkL at h
  cases h1 : (checkSize (sizesOf l) != 0) with
  | true => simp [h1] at h
  | false =>
    cases h2 : decide (l.rungs.length > 64) with
    | true => simp [h1, h2] at h
    | false =>
      simp only [h1, h2, cond_false] at h
      cases h3 : chk1 (sizesOf l) l.rungs 0 l.rungs.length with
      | some x => rw [h3] at h; exact absurd h (chk1_some h3)
      | none => exact ⟨by simpa using h1, fun i hi => chk1_none h3 i (by omega) (by omega)⟩
theorem checkAddr_ok {s : k59.ty} {k n : Int} (h : checkAddr s (k, n) = 0) : (k = 0 ∨ k = 1 ∨ k = 2) ∧ 0 ≤ n ∧ n < width s k := by
  unfold checkAddr within at h
  by_cases h0 : 0 ≤ k
  · by_cases h2 : k ≤ 2
    · by_cases h3 : n < 0
      · simp [h0, h2, h3] at h
      · by_cases h4 : n ≥ width s k
        · simp [h0, h2, h3, h4] at h
        · exact ⟨by omega, by omega, by omega⟩
    · simp [h0, h2] at h
  · simp [h0] at h
theorem partE_ok {s : k59.ty} {k : Int} {a : k72.ty} (h : partE s k a = 0) : decide (k < 0) = false ∧ decide (k ≥ 4) = false ∧ checkAddr s a = 0 := by
  unfold partE at h
  cases h1 : decide (k < 0) with
  | true => rw [h1] at h; exact absurd h (by simp)
  | false =>
    rw [h1] at h
    cases h2 : decide (k ≥ 4) with
    | true => rw [h2] at h; exact absurd h (by simp)
    | false => rw [h2] at h; exact ⟨rfl, rfl, h⟩
/-- A state of the ladder's sizes. -/
def sized (l : Lad) (s : Sta) : Prop := (s.1.length : Int) = l.2.1 ∧ (s.2.1.length : Int) = l.2.2.1 ∧ (s.2.2.length : Int) = bAt (basesFrom 0 l.rungs) l.rungs.length
theorem get_ok {l : List Bool} {n : Int} (h : bound n l.length) : (get l n).2 = 0 := by
  unfold get; rw [isIn_iff.2 h]; rfl
theorem readS_ok {l : Lad} {inp : List Bool} {st : Sta} (hi : (inp.length : Int) = l.1) (hs : sized l st) {k n : Int} (h : checkAddr (sizesOf l) (k, n) = 0) : (readS inp st (k, n)).2 = 0 := by
  obtain ⟨hk, h0, h1⟩ := checkAddr_ok h
  obtain ⟨s1, s2, _⟩ := hs
  obtain ⟨g1, _⟩ := readS_get inp st k n
  rw [g1 (by omega) (by omega)]
  rcases hk with rfl | rfl | rfl
  · have h1 : n < l.1 := h1
    exact get_ok (l := inp) ⟨h0, by rw [hi]; exact h1⟩
  · have h1 : n < l.2.1 := h1
    exact get_ok (l := st.1) ⟨h0, by rw [s1]; exact h1⟩
  · have h1 : n < l.2.2.1 := h1
    exact get_ok (l := st.2.1) ⟨h0, by rw [s2]; exact h1⟩
theorem setI_ok {l : List Bool} {n : Int} (h : bound n l.length) (v : Bool) : setI l n v = (l.set n.toNat v, 0) := by
  unfold setI; rw [isIn_iff.2 h]; rfl
theorem writeS_ok {l : Lad} {st : Sta} (hs : sized l st) {k n : Int} (h : checkAddr (sizesOf l) (k, n) = 0) (hk0 : ¬ k = 0) (v : Bool) : (writeS st (k, n) v).2 = 0 ∧ sized l (writeS st (k, n) v).1 := by
  obtain ⟨hk, h0, h1⟩ := checkAddr_ok h
  obtain ⟨s1, s2, s3⟩ := hs
  unfold writeS
  rcases hk with rfl | rfl | rfl
  · exact absurd rfl hk0
  · have h1 : n < l.2.1 := h1
    have e := setI_ok (l := st.1) (n := n) ⟨h0, by rw [s1]; exact h1⟩ v
    show (bif (setI st.1 n v).2 != 0 then (zeroS, (setI st.1 n v).2) else (((setI st.1 n v).1, st.2.1, st.2.2), 0)).2 = 0 ∧ sized l (bif (setI st.1 n v).2 != 0 then (zeroS, (setI st.1 n v).2) else (((setI st.1 n v).1, st.2.1, st.2.2), 0)).1
    rw [e]
    exact ⟨rfl, by show ((st.1.set n.toNat v).length : Int) = _; rw [List.length_set]; exact s1, s2, s3⟩
  · have h1 : n < l.2.2.1 := h1
    have e := setI_ok (l := st.2.1) (n := n) ⟨h0, by rw [s2]; exact h1⟩ v
    show (bif (setI st.2.1 n v).2 != 0 then (zeroS, (setI st.2.1 n v).2) else ((st.1, (setI st.2.1 n v).1, st.2.2), 0)).2 = 0 ∧ sized l (bif (setI st.2.1 n v).2 != 0 then (zeroS, (setI st.2.1 n v).2) else ((st.1, (setI st.2.1 n v).1, st.2.2), 0)).1
    rw [e]
    exact ⟨rfl, s1, by show ((st.2.1.set n.toNat v).length : Int) = _; rw [List.length_set]; exact s2, s3⟩
theorem conGo_ok {l : Lad} {inp : List Bool} {st : Sta} (hi : (inp.length : Int) = l.1) (hs : sized l st) : ∀ (cs : List Con) (slot : Int) (e on : List Bool), consE (sizesOf l) cs = 0 → 0 ≤ slot → slot + (cs.countP isEdge : Nat) ≤ (e.length : Int) →
    (conGo inp st cs slot e on).2.2 = 0 ∧ (conGo inp st cs slot e on).2.1.length = e.length ∧ (conGo inp st cs slot e on).1.length = on.length + cs.length
  | [], slot, e, on, _, _, _ => ⟨rfl, rfl, rfl⟩
  | c :: r, slot, e, on, h, h0, hle => by
    simp only [consE] at h
    cases hp : partE (sizesOf l) c.1 c.2.1 != 0 with
    | true => rw [hp] at h; simp only [cond_true] at h; rw [h] at hp; cases hp
    | false =>
      rw [hp] at h
      simp only [cond_false] at h
      cases h1 : !isName c.2.2.1 with
      | true => rw [h1] at h; exact absurd h (by simp)
      | false =>
        rw [h1] at h
        simp only [cond_false] at h
        cases h2 : !isName c.2.2.2 with
        | true => rw [h2] at h; exact absurd h (by simp)
        | false =>
          rw [h2] at h
          simp only [cond_false] at h
          obtain ⟨p1, p2, p3⟩ := partE_ok (show partE (sizesOf l) c.1 c.2.1 = 0 by simpa using hp)
          have hr : ((readS inp st c.2.1).2 != 0) = false := by rw [readS_ok (k := c.2.1.1) (n := c.2.1.2) hi hs p3]; rfl
          simp only [conGo, p1, p2, hr, cond_false]
          rw [List.countP_cons] at hle
          cases he : isEdge c with
          | true =>
            rw [he] at hle
            simp only [if_true] at hle
            simp only [cond_true]
            rw [decide_eq_false (show ¬ slot < 0 by omega), decide_eq_false (show ¬ slot ≥ (e.length : Int) by omega)]
            simp only [cond_false]
            obtain ⟨a1, a2, a3⟩ := conGo_ok hi hs r (slot + 1) (e.set slot.toNat (readS inp st c.2.1).1) (on ++ [conducting c.1 (readS inp st c.2.1).1 (getE .bool e slot)]) h (by omega) (by rw [List.length_set]; omega)
            refine ⟨a1, by rw [a2, List.length_set], by rw [a3, List.length_append, List.length_singleton, List.length_cons]; omega⟩
          | false =>
            rw [he] at hle
            simp only [cond_false]
            obtain ⟨a1, a2, a3⟩ := conGo_ok hi hs r slot e (on ++ [conducting c.1 (readS inp st c.2.1).1 false]) h h0 (by simp at hle; omega)
            refine ⟨a1, a2, by rw [a3, List.length_append, List.length_singleton, List.length_cons]; omega⟩
theorem coilGo_ok {l : Lad} (on : Bool) : ∀ (cs : List Coi) (st : Sta), sized l st → coisE (sizesOf l) cs = 0 → (coilGo on cs st).2 = 0 ∧ sized l (coilGo on cs st).1
  | [], st, hs, _ => ⟨rfl, hs⟩
  | c :: r, st, hs, h => by
    simp only [coisE] at h
    cases hp : partE (sizesOf l) c.1 c.2 != 0 with
    | true => rw [hp] at h; simp only [cond_true] at h; rw [h] at hp; cases hp
    | false =>
      rw [hp] at h
      simp only [cond_false] at h
      cases h1 : c.2.1 == 0 with
      | true => rw [h1] at h; exact absurd h (by simp)
      | false =>
        rw [h1] at h
        simp only [cond_false] at h
        obtain ⟨p1, p2, p3⟩ := partE_ok (show partE (sizesOf l) c.1 c.2 = 0 by simpa using hp)
        have hk : ¬ c.2.1 = 0 := fun e => by rw [e] at h1; cases h1
        obtain ⟨w1, w2⟩ := writeS_ok (k := c.2.1) (n := c.2.2) hs p3 hk (writes c.1 on).1
        have w1 : ((writeS st c.2 (writes c.1 on).1).2 != 0) = false := by
          have : (writeS st c.2 (writes c.1 on).1).2 = 0 := w1
          rw [this]; rfl
        simp only [coilGo, p1, p2, w1, cond_false]
        cases (writes c.1 on).2 with
        | true => exact coilGo_ok on r _ w2 h
        | false => exact coilGo_ok on r _ hs h
theorem edges_nonneg (r : Rung) : 0 ≤ edges r := by unfold edges; omega
theorem bases_mono (l : List Rung) : ∀ (d i : Nat), i + d = l.length → bAt (basesFrom 0 l) i ≤ bAt (basesFrom 0 l) l.length
  | 0, i, h => by rw [show i = l.length by omega]; exact Int.le_refl _
  | d + 1, i, h => by
    have h1 := bases_mono l d (i + 1) (by omega)
    rw [basesFrom_step l 0 i (by omega)] at h1
    have := edges_nonneg (getE k45 l i)
    omega
theorem bases_small {l : List Rung} (hc : ∀ i, i < l.length → (Rung.contacts (getE k45 l i)).length ≤ 256) : ∀ i : Nat, i ≤ l.length → 0 ≤ bAt (basesFrom 0 l) i ∧ bAt (basesFrom 0 l) i ≤ i * 256 := by
  intro i
  induction i with
  | zero => intro _; rw [basesFrom_zero]; omega
  | succ i ih =>
    intro hi
    rw [basesFrom_step l 0 i (by omega)]
    have h1 := ih (by omega)
    have h2 := hc i (by omega)
    have h3 := List.countP_le_length (p := isEdge) (l := (Rung.contacts (getE k45 l i)))
    have h4 : edges (getE k45 l i) = ((Rung.contacts (getE k45 l i)).countP isEdge : Nat) := rfl
    omega
theorem scanR_ok {l : Lad} {inp : List Bool} {st : Sta} (hc : (checkL l).2 = 0) (hi : (inp.length : Int) = l.1) (hs : sized l st) {i : Nat} (hil : i < l.rungs.length) :
    (scanR (getE k45 l.rungs i) inp st (getE ki (basesFrom 0 l.rungs) i)).2.2 = 0 ∧ sized l (scanR (getE k45 l.rungs i) inp st (getE ki (basesFrom 0 l.rungs) i)).1 := by
  obtain ⟨_, hr⟩ := rungs_ok hc
  obtain ⟨r1, r2⟩ := rungE_parts (hr i hil)
  have hv := valid_of hc
  have hb0 := bases_small (fun j hj => (hv.rung j hj).1) i (by omega)
  have hb1 := bases_mono l.rungs (l.rungs.length - (i + 1)) (i + 1) (by omega)
  rw [basesFrom_step l.rungs 0 i hil] at hb1
  obtain ⟨s1, s2, s3⟩ := hs
  obtain ⟨c1, c2, c3⟩ := conGo_ok (inp := inp) hi ⟨s1, s2, s3⟩ (Rung.contacts (getE k45 l.rungs i)) (bAt (basesFrom 0 l.rungs) i) st.2.2 [] r1 hb0.1 (by rw [s3]; exact hb1)
  have e1 : contactsR (getE k45 l.rungs i) inp st (getE ki (basesFrom 0 l.rungs) i) = ((conGo inp st (Rung.contacts (getE k45 l.rungs i)) (bAt (basesFrom 0 l.rungs) i) st.2.2 []).1, (st.1, st.2.1, (conGo inp st (Rung.contacts (getE k45 l.rungs i)) (bAt (basesFrom 0 l.rungs) i) st.2.2 []).2.1), 0) := by
    unfold contactsR
    show (bif (conGo inp st (Rung.contacts (getE k45 l.rungs i)) (bAt (basesFrom 0 l.rungs) i) st.2.2 []).2.2 != 0 then _ else _) = _
    rw [c1]; rfl
  have e2 : (conductsR (getE k45 l.rungs i) (conGo inp st (Rung.contacts (getE k45 l.rungs i)) (bAt (basesFrom 0 l.rungs) i) st.2.2 []).1).2 = 0 := by
    unfold conductsR
    rw [decide_eq_true (by rw [c3]; simp)]; rfl
  have hs2 : sized l (st.1, st.2.1, (conGo inp st (Rung.contacts (getE k45 l.rungs i)) (bAt (basesFrom 0 l.rungs) i) st.2.2 []).2.1) := ⟨s1, s2, by show ((conGo inp st (Rung.contacts (getE k45 l.rungs i)) (bAt (basesFrom 0 l.rungs) i) st.2.2 []).2.1.length : Int) = _; rw [c2]; exact s3⟩
  unfold scanR
  rw [e1]
  simp only [e2]
  obtain ⟨k1, k2⟩ := coilGo_ok (conductsR (getE k45 l.rungs i) (conGo inp st (Rung.contacts (getE k45 l.rungs i)) (bAt (basesFrom 0 l.rungs) i) st.2.2 []).1).1 (Rung.coils (getE k45 l.rungs i)) _ hs2 r2
  have k1' : ((coilGo (conductsR (getE k45 l.rungs i) (conGo inp st (Rung.contacts (getE k45 l.rungs i)) (bAt (basesFrom 0 l.rungs) i) st.2.2 []).1).1 (Rung.coils (getE k45 l.rungs i)) (st.1, st.2.1, (conGo inp st (Rung.contacts (getE k45 l.rungs i)) (bAt (basesFrom 0 l.rungs) i) st.2.2 []).2.1)).2 != 0) = false := by rw [k1]; rfl
  rw [k1']
  exact ⟨rfl, k2⟩
theorem fits_sized {l : Lad} (hc : (checkL l).2 = 0) (st : Sta) : fits (sizeE l) st = (decide ((st.1.length : Int) = l.2.1) && (decide ((st.2.1.length : Int) = l.2.2.1) && decide ((st.2.2.length : Int) = bAt (basesFrom 0 l.rungs) l.rungs.length))) := by
  obtain ⟨h1, _⟩ := rungs_ok hc
  have hv := valid_of hc
  have hb := bases_small (fun j hj => (hv.rung j hj).1) l.rungs.length (Nat.le_refl _)
  have hl := hv.len
  have hw : within (bAt (basesFrom 0 l.rungs) l.rungs.length) 16384 = true := by
    unfold within
    rw [decide_eq_true hb.1, decide_eq_true (show bAt (basesFrom 0 l.rungs) l.rungs.length ≤ 16384 by omega)]; rfl
  have hz : checkSize (sizeE l) = checkSize (sizesOf l) := by
    show (bif within (bAt (basesFrom 0 l.rungs) l.rungs.length) 16384 && within l.1 256 && within l.2.1 256 && within l.2.2.1 256 then 0 else 3) = (bif within 0 16384 && within l.1 256 && within l.2.1 256 && within l.2.2.1 256 then (0 : Int) else 3)
    rw [hw]; rfl
  unfold fits
  rw [hz, h1]
  show (_ && (_ && (_ && ((0 : Int) == 0)))) = _
  rw [show ((0 : Int) == 0) = true from rfl, Bool.and_true]
  rfl
/-! where a jump leads: the first rung of its label -/
theorem idxP_first (p : Rung → Bool) : ∀ (l : List Rung) (i k : Nat), idxP p l i = ((i + k : Nat) : Int) → ∀ j, j < k → p (getE k45 l j) = false
  | [], i, k, h => by simp [idxP] at h; omega
  | r :: l, i, k, h => by
    intro j hj
    simp only [idxP] at h
    cases hp : p r with
    | true => rw [hp] at h; simp only [cond_true] at h; omega
    | false =>
      rw [hp] at h
      simp only [cond_false] at h
      cases j with
      | zero => exact hp
      | succ j =>
        have := idxP_first p l (i + 1) (k - 1) (by rw [h]; congr 1; omega) j (by omega)
        have e : getE k45 (r :: l) ((j + 1 : Nat) : Int) = getE k45 l (j : Int) := by
          have a1 : ((j + 1 : Nat) : Int).toNat = j + 1 := by omega
          have a2 : ((j : Nat) : Int).toNat = j := by omega
          unfold getE
          rw [a1, a2, List.getD_cons_succ]
        rw [e]; exact this
theorem behind_first {l : Lad} {i m : Nat} (h : behind l i = (m : Int)) (him : i < m) : ∀ j, i < j → j < m → Rung.label (getE k45 l.rungs j) ≠ jumpAt l i := by
  intro j h1 h2 e3
  have e : ((i : Int) + 1).toNat = i + 1 := by omega
  unfold behind at h
  rw [e] at h
  have h3 := idxP_first (fun r => decide (Rung.label r = jumpAt l i)) (l.rungs.drop (i + 1)) 0 (m - (i + 1)) (by omega) (j - (i + 1)) (by omega)
  have e2 : getE k45 (l.rungs.drop (i + 1)) ((j - (i + 1) : Nat) : Int) = getE k45 l.rungs (j : Int) := by
    have a1 : ((j - (i + 1) : Nat) : Int).toNat = j - (i + 1) := by omega
    have a2 : ((j : Nat) : Int).toNat = j := by omega
    have a3 : i + 1 + (j - (i + 1)) = j := by omega
    unfold getE
    rw [a1, a2]
    simp [List.getD, a3]
  rw [e2] at h3
  exact of_decide_eq_false h3 e3
end Go.AM
