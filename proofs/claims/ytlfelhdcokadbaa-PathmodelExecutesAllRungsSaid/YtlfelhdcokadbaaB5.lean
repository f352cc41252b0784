/- Functions of the program: reads and writes of states. Conditions: none. -/
import Derived.Test.YtlfelhdcokadbaaD1
set_option linter.all false
namespace Go.AM
open Go.Proofs
-- f58 "busbar/state.Read" ['25', '27', '73'] -> ['4', '32']
def A58 : Ann := []
def E58 : Env := [(70, sp70)]
def I58 (p0 : ((.slice 4 .bool) : K).ty) (p1 : (k26 : K).ty) (p2 : (k72 : K).ty) : List V1 := [nfK (.slice 4 .bool) p0, nfK k26 p1, nfK k72 p2]
def t58 (Q : List V1 → List Ob → Prop) (p0 : K.ty (K.slice (4 : TypeId) K.bool)) (p1 : K.ty k26) (p2 : K.ty k72) : Prop :=
  brP (decide (p2.fst < (0 : Int))) (Q [V1.one (Lf.bool false), V1.one (Lf.int IntKind.i64 (8 : Int))] []) (brP (decide (p2.fst ≥ (3 : Int))) (Q [V1.one (Lf.bool false), V1.one (Lf.int IntKind.i64 (8 : Int))] []) (bound p2.fst (3 : Nat) ∧ brP (decide (p2.fst = (0 : Int))) (Q [V1.one (Lf.bool (get p0 p2.snd).fst), V1.one (Lf.int IntKind.i64 (get p0 p2.snd).snd)] []) (brP (decide (p2.fst = (1 : Int))) (Q [V1.one (Lf.bool (get p1.fst p2.snd).fst), V1.one (Lf.int IntKind.i64 (get p1.fst p2.snd).snd)] []) (brP (decide (p2.fst = (2 : Int))) (Q [V1.one (Lf.bool (get p1.snd.fst p2.snd).fst), V1.one (Lf.int IntKind.i64 (get p1.snd.fst p2.snd).snd)] []) True))))
theorem t58_mono {Q : List V1 → List Ob → Prop} {Q' : List V1 → List Ob → Prop} (hq : ∀ r h, Q r h → Q' r h) (p0 : K.ty (K.slice (4 : TypeId) K.bool)) (p1 : K.ty k26) (p2 : K.ty k72) :
    t58 Q p0 p1 p2 → t58 Q' p0 p1 p2 :=
  brM (hq _ _) (brM (hq _ _) (andM (id) (brM (hq _ _) (brM (hq _ _) (brM (hq _ _) (id))))))
theorem t58_eq (Q : List V1 → List Ob → Prop) (p0 : K.ty (K.slice (4 : TypeId) K.bool)) (p1 : K.ty k26) (p2 : K.ty k72) :
    t58 Q p0 p1 p2 = (afun tt E58 A58 Try.f58 (I58 p0 p1 p2) [] Q) := by kernel_rfl
def H58 (Q : List V1 → List Ob → Prop) (p0 : K.ty (K.slice (4 : TypeId) K.bool)) (p1 : K.ty k26) (p2 : K.ty k72) : Prop := t58 Q p0 p1 p2
theorem ok58 (Q : List V1 → List Ob → Prop) (p0 : K.ty (K.slice (4 : TypeId) K.bool)) (p1 : K.ty k26) (p2 : K.ty k72) (h : H58 Q p0 p1 p2) : Of (afun tt E58 A58 Try.f58 (I58 p0 p1 p2) [] Q) :=
  kcO (t58_eq Q p0 p1 p2) (t58_mono (fun _ _ h => h) p0 p1 p2 h)
theorem env58 : EnvOk Try.prog E58 := .cons spec70 (by kernel_rfl) <| .nil
-- f24 "busbar/state.Fits" ['60', '27'] -> ['4']
def A24 : Ann := [(0, [2, 5, 16, 17], [2], [4])]
def E24 : Env := [(35, sp35), (39, sp39)]
def I24 (p0 : (k59 : K).ty) (p1 : (k26 : K).ty) : List V1 := [nfK k59 p0, nfK k26 p1]
noncomputable def L24_0 : Code := Code.a (Code.a (Code.b (Code.a (Code.b (Code.b (Func.code Try.f24))))))
def S24_0 (x16_0 : Int) (x16_1 : Int) (x16_2 : Int) (x17 : Int) (xh0_0 : Int) (xh0_1 : Int) (xh0_2 : Int) (xh0_3 : Int) (lh1_0 : List (K.ty K.bool)) (lh1_1 : List (K.ty K.bool)) (lh1_2 : List (K.ty K.bool)) : St := sp (31 : Nat) [((2 : Nat), V.v (V1.one (Lf.ptr (nat_lit 0) (nat_lit 0)))), ((5 : Nat), V.v (V1.one (Lf.ptr (nat_lit 1) (nat_lit 0)))), ((16 : Nat), V.v (V1.agg [Lf.int IntKind.i64 x16_0, Lf.int IntKind.i64 x16_1, Lf.int IntKind.i64 x16_2])), ((17 : Nat), V.v (V1.one (Lf.int IntKind.i64 x17)))] [Ob.box (60 : Nat) [Lf.int IntKind.i64 xh0_0, Lf.int IntKind.i64 xh0_1, Lf.int IntKind.i64 xh0_2, Lf.int IntKind.i64 xh0_3], Ob.box (83 : Nat) [Lf.sl (4 : TypeId) K.bool lh1_0, Lf.sl (4 : TypeId) K.bool lh1_1, Lf.sl (4 : TypeId) K.bool lh1_2]]
def X24_0_0 (b4 : Bool) : St := sp (31 : Nat) [((4 : Nat), V.v (V1.one (Lf.bool b4)))] []
def X24_0_1 (xh0_0 : Int) (xh0_1 : Int) (xh0_2 : Int) (xh0_3 : Int) : St := sp (31 : Nat) [((2 : Nat), V.v (V1.one (Lf.ptr (nat_lit 0) (nat_lit 0))))] [Ob.box (60 : Nat) [Lf.int IntKind.i64 xh0_0, Lf.int IntKind.i64 xh0_1, Lf.int IntKind.i64 xh0_2, Lf.int IntKind.i64 xh0_3]]
def t24_0 (again : Int → Int → Int → Int → Int → Int → Int → Int → List (K.ty K.bool) → List (K.ty K.bool) → List (K.ty K.bool) → Prop) (R0 : Bool → Prop) (R1 : Int → Int → Int → Int → Prop) (x16_0 : Int) (x16_1 : Int) (x16_2 : Int) (x17 : Int) (xh0_0 : Int) (xh0_1 : Int) (xh0_2 : Int) (xh0_3 : Int) (lh1_0 : List (K.ty K.bool)) (lh1_1 : List (K.ty K.bool)) (lh1_2 : List (K.ty K.bool)) : Prop :=
  brP (decide (x17 < (3 : Int))) (bound x17 (3 : Nat) ∧ brP (decide (x17 = (0 : Int))) (bound x17 (3 : Nat) ∧ brP (decide (x17 = (0 : Int))) (brP ((↑(List.length lh1_0) : Int) != x16_0) (R0 false) (again x16_0 x16_1 x16_2 (IntKind.wrap IntKind.i64 (x17 + (1 : Int))) xh0_0 xh0_1 xh0_2 xh0_3 lh1_0 lh1_1 lh1_2)) (brP (decide (x17 = (1 : Int))) (brP ((↑(List.length lh1_1) : Int) != x16_0) (R0 false) (again x16_0 x16_1 x16_2 (IntKind.wrap IntKind.i64 (x17 + (1 : Int))) xh0_0 xh0_1 xh0_2 xh0_3 lh1_0 lh1_1 lh1_2)) (brP (decide (x17 = (2 : Int))) (brP ((↑(List.length lh1_2) : Int) != x16_0) (R0 false) (again x16_0 x16_1 x16_2 (IntKind.wrap IntKind.i64 (x17 + (1 : Int))) xh0_0 xh0_1 xh0_2 xh0_3 lh1_0 lh1_1 lh1_2)) True))) (brP (decide (x17 = (1 : Int))) (bound x17 (3 : Nat) ∧ brP (decide (x17 = (0 : Int))) (brP ((↑(List.length lh1_0) : Int) != x16_1) (R0 false) (again x16_0 x16_1 x16_2 (IntKind.wrap IntKind.i64 (x17 + (1 : Int))) xh0_0 xh0_1 xh0_2 xh0_3 lh1_0 lh1_1 lh1_2)) (brP (decide (x17 = (1 : Int))) (brP ((↑(List.length lh1_1) : Int) != x16_1) (R0 false) (again x16_0 x16_1 x16_2 (IntKind.wrap IntKind.i64 (x17 + (1 : Int))) xh0_0 xh0_1 xh0_2 xh0_3 lh1_0 lh1_1 lh1_2)) (brP (decide (x17 = (2 : Int))) (brP ((↑(List.length lh1_2) : Int) != x16_1) (R0 false) (again x16_0 x16_1 x16_2 (IntKind.wrap IntKind.i64 (x17 + (1 : Int))) xh0_0 xh0_1 xh0_2 xh0_3 lh1_0 lh1_1 lh1_2)) True))) (brP (decide (x17 = (2 : Int))) (bound x17 (3 : Nat) ∧ brP (decide (x17 = (0 : Int))) (brP ((↑(List.length lh1_0) : Int) != x16_2) (R0 false) (again x16_0 x16_1 x16_2 (IntKind.wrap IntKind.i64 (x17 + (1 : Int))) xh0_0 xh0_1 xh0_2 xh0_3 lh1_0 lh1_1 lh1_2)) (brP (decide (x17 = (1 : Int))) (brP ((↑(List.length lh1_1) : Int) != x16_2) (R0 false) (again x16_0 x16_1 x16_2 (IntKind.wrap IntKind.i64 (x17 + (1 : Int))) xh0_0 xh0_1 xh0_2 xh0_3 lh1_0 lh1_1 lh1_2)) (brP (decide (x17 = (2 : Int))) (brP ((↑(List.length lh1_2) : Int) != x16_2) (R0 false) (again x16_0 x16_1 x16_2 (IntKind.wrap IntKind.i64 (x17 + (1 : Int))) xh0_0 xh0_1 xh0_2 xh0_3 lh1_0 lh1_1 lh1_2)) True))) True))) (R1 xh0_0 xh0_1 xh0_2 xh0_3)
theorem t24_0_mono {again : Int → Int → Int → Int → Int → Int → Int → Int → List (K.ty K.bool) → List (K.ty K.bool) → List (K.ty K.bool) → Prop} {R0 : Bool → Prop} {R1 : Int → Int → Int → Int → Prop} {again' : Int → Int → Int → Int → Int → Int → Int → Int → List (K.ty K.bool) → List (K.ty K.bool) → List (K.ty K.bool) → Prop} {R0' : Bool → Prop} {R1' : Int → Int → Int → Int → Prop} (ha : ∀ x16_0 x16_1 x16_2 x17 xh0_0 xh0_1 xh0_2 xh0_3 lh1_0 lh1_1 lh1_2, again x16_0 x16_1 x16_2 x17 xh0_0 xh0_1 xh0_2 xh0_3 lh1_0 lh1_1 lh1_2 → again' x16_0 x16_1 x16_2 x17 xh0_0 xh0_1 xh0_2 xh0_3 lh1_0 lh1_1 lh1_2) (hr0 : ∀ b4, R0 b4 → R0' b4) (hr1 : ∀ xh0_0 xh0_1 xh0_2 xh0_3, R1 xh0_0 xh0_1 xh0_2 xh0_3 → R1' xh0_0 xh0_1 xh0_2 xh0_3) (x16_0 : Int) (x16_1 : Int) (x16_2 : Int) (x17 : Int) (xh0_0 : Int) (xh0_1 : Int) (xh0_2 : Int) (xh0_3 : Int) (lh1_0 : List (K.ty K.bool)) (lh1_1 : List (K.ty K.bool)) (lh1_2 : List (K.ty K.bool)) :
    t24_0 again R0 R1 x16_0 x16_1 x16_2 x17 xh0_0 xh0_1 xh0_2 xh0_3 lh1_0 lh1_1 lh1_2 → t24_0 again' R0' R1' x16_0 x16_1 x16_2 x17 xh0_0 xh0_1 xh0_2 xh0_3 lh1_0 lh1_1 lh1_2 :=
  brM (andM (id) (brM (andM (id) (brM (brM (hr0 _) (ha _ _ _ _ _ _ _ _ _ _ _)) (brM (brM (hr0 _) (ha _ _ _ _ _ _ _ _ _ _ _)) (brM (brM (hr0 _) (ha _ _ _ _ _ _ _ _ _ _ _)) (id))))) (brM (andM (id) (brM (brM (hr0 _) (ha _ _ _ _ _ _ _ _ _ _ _)) (brM (brM (hr0 _) (ha _ _ _ _ _ _ _ _ _ _ _)) (brM (brM (hr0 _) (ha _ _ _ _ _ _ _ _ _ _ _)) (id))))) (brM (andM (id) (brM (brM (hr0 _) (ha _ _ _ _ _ _ _ _ _ _ _)) (brM (brM (hr0 _) (ha _ _ _ _ _ _ _ _ _ _ _)) (brM (brM (hr0 _) (ha _ _ _ _ _ _ _ _ _ _ _)) (id))))) (id))))) (hr1 _ _ _ _)
theorem t24_0_eq (n : Nat) (Q : Ex → St → Prop) (x16_0 : Int) (x16_1 : Int) (x16_2 : Int) (x17 : Int) (xh0_0 : Int) (xh0_1 : Int) (xh0_2 : Int) (xh0_3 : Int) (lh1_0 : List (K.ty K.bool)) (lh1_1 : List (K.ty K.bool)) (lh1_2 : List (K.ty K.bool)) :
    t24_0 (fun x16_0 x16_1 x16_2 x17 xh0_0 xh0_1 xh0_2 xh0_3 lh1_0 lh1_1 lh1_2 => loopP (awp tt E24 A24 L24_0 0) ([(2 : Nat), (5 : Nat), (16 : Nat), (17 : Nat)], [(2 : Nat)], [(4 : Nat)]) n (S24_0 x16_0 x16_1 x16_2 x17 xh0_0 xh0_1 xh0_2 xh0_3 lh1_0 lh1_1 lh1_2) Q) (fun b4 => Q (Ex.ret) (X24_0_0 b4)) (fun xh0_0 xh0_1 xh0_2 xh0_3 => Q (Ex.exit (nat_lit 0)) (X24_0_1 xh0_0 xh0_1 xh0_2 xh0_3)) x16_0 x16_1 x16_2 x17 xh0_0 xh0_1 xh0_2 xh0_3 lh1_0 lh1_1 lh1_2 = (loopP (awp tt E24 A24 L24_0 0) ([(2 : Nat), (5 : Nat), (16 : Nat), (17 : Nat)], [(2 : Nat)], [(4 : Nat)]) (n + 1) (S24_0 x16_0 x16_1 x16_2 x17 xh0_0 xh0_1 xh0_2 xh0_3 lh1_0 lh1_1 lh1_2) Q) := by kernel_rfl
def G24_0 (R0 : Bool → Prop) (R1 : Int → Int → Int → Int → Prop) : Nat → Int → Int → Int → Int → Int → Int → Int → Int → List (K.ty K.bool) → List (K.ty K.bool) → List (K.ty K.bool) → Prop
  | 0, _, _, _, _, _, _, _, _, _, _, _ => False
  | n + 1, x16_0, x16_1, x16_2, x17, xh0_0, xh0_1, xh0_2, xh0_3, lh1_0, lh1_1, lh1_2 => t24_0 (G24_0 R0 R1 n) R0 R1 x16_0 x16_1 x16_2 x17 xh0_0 xh0_1 xh0_2 xh0_3 lh1_0 lh1_1 lh1_2
theorem T24_0 {R0 : Bool → Prop} {R1 : Int → Int → Int → Int → Prop} (Q : Ex → St → Prop) (hr0 : ∀ b4, R0 b4 → Of (Q (Ex.ret) (X24_0_0 b4))) (hr1 : ∀ xh0_0 xh0_1 xh0_2 xh0_3, R1 xh0_0 xh0_1 xh0_2 xh0_3 → Of (Q (Ex.exit (nat_lit 0)) (X24_0_1 xh0_0 xh0_1 xh0_2 xh0_3))) : ∀ (n : Nat) (x16_0 : Int) (x16_1 : Int) (x16_2 : Int) (x17 : Int) (xh0_0 : Int) (xh0_1 : Int) (xh0_2 : Int) (xh0_3 : Int) (lh1_0 : List (K.ty K.bool)) (lh1_1 : List (K.ty K.bool)) (lh1_2 : List (K.ty K.bool)), G24_0 R0 R1 n x16_0 x16_1 x16_2 x17 xh0_0 xh0_1 xh0_2 xh0_3 lh1_0 lh1_1 lh1_2 → Of (loopP (awp tt E24 A24 L24_0 0) ([(2 : Nat), (5 : Nat), (16 : Nat), (17 : Nat)], [(2 : Nat)], [(4 : Nat)]) n (S24_0 x16_0 x16_1 x16_2 x17 xh0_0 xh0_1 xh0_2 xh0_3 lh1_0 lh1_1 lh1_2) Q) := by
  intro n
  induction n with
  | zero => intro x16_0 x16_1 x16_2 x17 xh0_0 xh0_1 xh0_2 xh0_3 lh1_0 lh1_1 lh1_2 h; exact h.elim
  | succ n ih =>
    intro x16_0 x16_1 x16_2 x17 xh0_0 xh0_1 xh0_2 xh0_3 lh1_0 lh1_1 lh1_2 h
    exact kcO (t24_0_eq n Q x16_0 x16_1 x16_2 x17 xh0_0 xh0_1 xh0_2 xh0_3 lh1_0 lh1_1 lh1_2) (t24_0_mono (fun _ _ _ _ _ _ _ _ _ _ _ h => (ih _ _ _ _ _ _ _ _ _ _ _ h).out) (fun _ h => (hr0 _ h).out) (fun _ _ _ _ h => (hr1 _ _ _ _ h).out) x16_0 x16_1 x16_2 x17 xh0_0 xh0_1 xh0_2 xh0_3 lh1_0 lh1_1 lh1_2 h)
def t24 (Q : List V1 → List Ob → Prop) (lp0 : K.ty k59 → K.ty k26 → Prop) (p0 : K.ty k59) (p1 : K.ty k26) : Prop :=
  lp0 p0 p1
theorem t24_mono {Q : List V1 → List Ob → Prop} {Q' : List V1 → List Ob → Prop} {lp0 : K.ty k59 → K.ty k26 → Prop} {lp0' : K.ty k59 → K.ty k26 → Prop} (hq : ∀ r h, Q r h → Q' r h) (hlp0 : ∀ p0 p1, lp0 p0 p1 → lp0' p0 p1) (p0 : K.ty k59) (p1 : K.ty k26) :
    t24 Q lp0 p0 p1 → t24 Q' lp0' p0 p1 :=
  hlp0 _ _
theorem t24_eq (Q : List V1 → List Ob → Prop) (p0 : K.ty k59) (p1 : K.ty k26) :
    t24 Q (fun p0 p1 => ∃ m, loopP (awp tt E24 A24 L24_0 0) ([(2 : Nat), (5 : Nat), (16 : Nat), (17 : Nat)], [(2 : Nat)], [(4 : Nat)]) m (S24_0 (p0.snd.fst) (p0.snd.snd.fst) (p0.snd.snd.snd) ((0 : Int)) (p0.fst) (p0.snd.fst) (p0.snd.snd.fst) (p0.snd.snd.snd) (p1.fst) (p1.snd.fst) (p1.snd.snd)) (blkC (0 : Nat) (seqC (awp tt E24 A24 (Code.b (Code.b (Code.b (Func.code Try.f24)))) (0 : Nat)) (topC tt Try.f24 0 Q)))) p0 p1 = (afun tt E24 A24 Try.f24 (I24 p0 p1) [] Q) := by kernel_rfl
def t24c0x1 (Q : List V1 → List Ob → Prop) (p0 : K.ty k59) (p1 : K.ty k26) (xh0_0e2 : Int) (xh0_1e2 : Int) (xh0_2e2 : Int) (xh0_3e2 : Int) : Prop :=
  Q [V1.one (Lf.bool (checkSize (xh0_0e2, xh0_1e2, xh0_2e2, xh0_3e2) == (0 : Int)))] []
theorem t24c0x1_mono {Q : List V1 → List Ob → Prop} {Q' : List V1 → List Ob → Prop} (hq : ∀ r h, Q r h → Q' r h) (p0 : K.ty k59) (p1 : K.ty k26) (xh0_0e2 : Int) (xh0_1e2 : Int) (xh0_2e2 : Int) (xh0_3e2 : Int) :
    t24c0x1 Q p0 p1 xh0_0e2 xh0_1e2 xh0_2e2 xh0_3e2 → t24c0x1 Q' p0 p1 xh0_0e2 xh0_1e2 xh0_2e2 xh0_3e2 :=
  hq _ _
theorem t24c0x1_eq (Q : List V1 → List Ob → Prop) (p0 : K.ty k59) (p1 : K.ty k26) (xh0_0e2 : Int) (xh0_1e2 : Int) (xh0_2e2 : Int) (xh0_3e2 : Int) :
    t24c0x1 Q p0 p1 xh0_0e2 xh0_1e2 xh0_2e2 xh0_3e2 = ((blkC (0 : Nat) (seqC (awp tt E24 A24 (Code.b (Code.b (Code.b (Func.code Try.f24)))) (0 : Nat)) (topC tt Try.f24 0 Q))) (Ex.exit (nat_lit 0)) (X24_0_1 xh0_0e2 xh0_1e2 xh0_2e2 xh0_3e2)) := by kernel_rfl
def t24c0x0 (Q : List V1 → List Ob → Prop) (p0 : K.ty k59) (p1 : K.ty k26) (b4e2 : Bool) : Prop :=
  Q [V1.one (Lf.bool b4e2)] []
theorem t24c0x0_mono {Q : List V1 → List Ob → Prop} {Q' : List V1 → List Ob → Prop} (hq : ∀ r h, Q r h → Q' r h) (p0 : K.ty k59) (p1 : K.ty k26) (b4e2 : Bool) :
    t24c0x0 Q p0 p1 b4e2 → t24c0x0 Q' p0 p1 b4e2 :=
  hq _ _
theorem t24c0x0_eq (Q : List V1 → List Ob → Prop) (p0 : K.ty k59) (p1 : K.ty k26) (b4e2 : Bool) :
    t24c0x0 Q p0 p1 b4e2 = ((blkC (0 : Nat) (seqC (awp tt E24 A24 (Code.b (Code.b (Code.b (Func.code Try.f24)))) (0 : Nat)) (topC tt Try.f24 0 Q))) (Ex.ret) (X24_0_0 b4e2)) := by kernel_rfl
def H24 (Q : List V1 → List Ob → Prop) (p0 : K.ty k59) (p1 : K.ty k26) : Prop := t24 Q (fun p0 p1 => ∃ m, G24_0 (fun b4e2 => t24c0x0 Q p0 p1 b4e2) (fun xh0_0e2 xh0_1e2 xh0_2e2 xh0_3e2 => t24c0x1 Q p0 p1 xh0_0e2 xh0_1e2 xh0_2e2 xh0_3e2) m (p0.snd.fst) (p0.snd.snd.fst) (p0.snd.snd.snd) ((0 : Int)) (p0.fst) (p0.snd.fst) (p0.snd.snd.fst) (p0.snd.snd.snd) (p1.fst) (p1.snd.fst) (p1.snd.snd)) p0 p1
theorem ok24 (Q : List V1 → List Ob → Prop) (p0 : K.ty k59) (p1 : K.ty k26) (h : H24 Q p0 p1) : Of (afun tt E24 A24 Try.f24 (I24 p0 p1) [] Q) :=
  kcO (t24_eq Q p0 p1) (t24_mono (fun _ _ h => h) (fun p0 p1 ⟨m, h⟩ => ⟨m, (T24_0 _ (fun b4e2 h => kcO (t24c0x0_eq _ _ _ _) (t24c0x0_mono (fun _ _ h => h) _ _ _ h)) (fun xh0_0e2 xh0_1e2 xh0_2e2 xh0_3e2 h => kcO (t24c0x1_eq _ _ _ _ _ _ _) (t24c0x1_mono (fun _ _ h => h) _ _ _ _ _ _ h)) m _ _ _ _ _ _ _ _ _ _ _ h).out⟩) p0 p1 h)
theorem env24 : EnvOk Try.prog E24 := .cons spec35 (by kernel_rfl) <| .cons spec39 (by kernel_rfl) <| .nil
-- f61 "busbar/state.Write" ['27', '73', '4'] -> ['27', '32']
def A61 : Ann := []
def E61 : Env := [(25, sp25), (71, sp71)]
def I61 (p0 : (k26 : K).ty) (p1 : (k72 : K).ty) (p2 : (.bool : K).ty) : List V1 := [nfK k26 p0, nfK k72 p1, nfK .bool p2]
def t61 (Q : List V1 → List Ob → Prop) (p0 : K.ty k26) (p1 : K.ty k72) (p2 : K.ty K.bool) : Prop :=
  small p0 ∧ brP (p1.fst == (1 : Int)) (List.length p0.fst ≤ (1000000000000 : Nat) ∧ brP ((setI p0.fst p1.snd p2).snd != (0 : Int)) (Q [V1.agg [Lf.nils, Lf.nils, Lf.nils], V1.one (Lf.int IntKind.i64 (setI p0.fst p1.snd p2).snd)] []) (Q [V1.agg [Lf.own (0 : Nat), Lf.own ((0 : Nat) + (1 : Nat)), Lf.own ((0 : Nat) + (1 : Nat) + (1 : Nat))], V1.one (Lf.int IntKind.i64 (0 : Int))] [Ob.row (4 : TypeId) K.bool (setI p0.fst p1.snd p2).fst, Ob.row (4 : TypeId) K.bool p0.snd.fst, Ob.row (4 : TypeId) K.bool p0.snd.snd])) (brP (p1.fst == (2 : Int)) (List.length p0.snd.fst ≤ (1000000000000 : Nat) ∧ brP ((setI p0.snd.fst p1.snd p2).snd != (0 : Int)) (Q [V1.agg [Lf.nils, Lf.nils, Lf.nils], V1.one (Lf.int IntKind.i64 (setI p0.snd.fst p1.snd p2).snd)] []) (Q [V1.agg [Lf.own (0 : Nat), Lf.own ((0 : Nat) + (1 : Nat)), Lf.own ((0 : Nat) + (1 : Nat) + (1 : Nat))], V1.one (Lf.int IntKind.i64 (0 : Int))] [Ob.row (4 : TypeId) K.bool p0.fst, Ob.row (4 : TypeId) K.bool (setI p0.snd.fst p1.snd p2).fst, Ob.row (4 : TypeId) K.bool p0.snd.snd])) (Q [V1.agg [Lf.nils, Lf.nils, Lf.nils], V1.one (Lf.int IntKind.i64 (8 : Int))] []))
theorem t61_mono {Q : List V1 → List Ob → Prop} {Q' : List V1 → List Ob → Prop} (hq : ∀ r h, Q r h → Q' r h) (p0 : K.ty k26) (p1 : K.ty k72) (p2 : K.ty K.bool) :
    t61 Q p0 p1 p2 → t61 Q' p0 p1 p2 :=
  andM (id) (brM (andM (id) (brM (hq _ _) (hq _ _))) (brM (andM (id) (brM (hq _ _) (hq _ _))) (hq _ _)))
theorem t61_eq (Q : List V1 → List Ob → Prop) (p0 : K.ty k26) (p1 : K.ty k72) (p2 : K.ty K.bool) :
    t61 Q p0 p1 p2 = (afun tt E61 A61 Try.f61 (I61 p0 p1 p2) [] Q) := by kernel_rfl
def H61 (Q : List V1 → List Ob → Prop) (p0 : K.ty k26) (p1 : K.ty k72) (p2 : K.ty K.bool) : Prop := t61 Q p0 p1 p2
theorem ok61 (Q : List V1 → List Ob → Prop) (p0 : K.ty k26) (p1 : K.ty k72) (p2 : K.ty K.bool) (h : H61 Q p0 p1 p2) : Of (afun tt E61 A61 Try.f61 (I61 p0 p1 p2) [] Q) :=
  kcO (t61_eq Q p0 p1 p2) (t61_mono (fun _ _ h => h) p0 p1 p2 h)
theorem env61 : EnvOk Try.prog E61 := .cons spec25 (by kernel_rfl) <| .cons spec71 (by kernel_rfl) <| .nil
-- f55 "busbar/printer.part" ['60', '3', '73'] -> ['32']
def A55 : Ann := []
def E55 : Env := [(69, sp69)]
def I55 (p0 : (k59 : K).ty) (p1 : ((.int .i64) : K).ty) (p2 : (k72 : K).ty) : List V1 := [nfK k59 p0, nfK (.int .i64) p1, nfK k72 p2]
def t55 (Q : List V1 → List Ob → Prop) (p0 : K.ty k59) (p1 : K.ty (K.int IntKind.i64)) (p2 : K.ty k72) : Prop :=
  brP (decide (p1 < (0 : Int))) (Q [V1.one (Lf.int IntKind.i64 (8 : Int))] []) (brP (decide (p1 ≥ (4 : Int))) (Q [V1.one (Lf.int IntKind.i64 (8 : Int))] []) (Q [V1.one (Lf.int IntKind.i64 (checkAddr p0 p2))] []))
theorem t55_mono {Q : List V1 → List Ob → Prop} {Q' : List V1 → List Ob → Prop} (hq : ∀ r h, Q r h → Q' r h) (p0 : K.ty k59) (p1 : K.ty (K.int IntKind.i64)) (p2 : K.ty k72) :
    t55 Q p0 p1 p2 → t55 Q' p0 p1 p2 :=
  brM (hq _ _) (brM (hq _ _) (hq _ _))
theorem t55_eq (Q : List V1 → List Ob → Prop) (p0 : K.ty k59) (p1 : K.ty (K.int IntKind.i64)) (p2 : K.ty k72) :
    t55 Q p0 p1 p2 = (afun tt E55 A55 Try.f55 (I55 p0 p1 p2) [] Q) := by kernel_rfl
def H55 (Q : List V1 → List Ob → Prop) (p0 : K.ty k59) (p1 : K.ty (K.int IntKind.i64)) (p2 : K.ty k72) : Prop := t55 Q p0 p1 p2
theorem ok55 (Q : List V1 → List Ob → Prop) (p0 : K.ty k59) (p1 : K.ty (K.int IntKind.i64)) (p2 : K.ty k72) (h : H55 Q p0 p1 p2) : Of (afun tt E55 A55 Try.f55 (I55 p0 p1 p2) [] Q) :=
  kcO (t55_eq Q p0 p1 p2) (t55_mono (fun _ _ h => h) p0 p1 p2 h)
theorem env55 : EnvOk Try.prog E55 := .cons spec69 (by kernel_rfl) <| .nil
-- f59 "busbar/rungeval.conducting" ['3', '4', '4'] -> ['4']
def A59 : Ann := []
def E59 : Env := []
def I59 (p0 : ((.int .i64) : K).ty) (p1 : (.bool : K).ty) (p2 : (.bool : K).ty) : List V1 := [nfK (.int .i64) p0, nfK .bool p1, nfK .bool p2]
def t59 (Q : List V1 → List Ob → Prop) (p0 : K.ty (K.int IntKind.i64)) (p1 : K.ty K.bool) (p2 : K.ty K.bool) : Prop :=
  brP p1 (brP (!p1) (bound p0 (4 : Nat) ∧ brP (decide (p0 = (0 : Int))) (Q [V1.one (Lf.bool p1)] []) (brP (decide (p0 = (1 : Int))) (Q [V1.one (Lf.bool !p1)] []) (brP (decide (p0 = (2 : Int))) (Q [V1.one (Lf.bool !p2)] []) (brP (decide (p0 = (3 : Int))) (Q [V1.one (Lf.bool p2)] []) True)))) (bound p0 (4 : Nat) ∧ brP (decide (p0 = (0 : Int))) (Q [V1.one (Lf.bool p1)] []) (brP (decide (p0 = (1 : Int))) (Q [V1.one (Lf.bool !p1)] []) (brP (decide (p0 = (2 : Int))) (Q [V1.one (Lf.bool !p2)] []) (brP (decide (p0 = (3 : Int))) (Q [V1.one (Lf.bool false)] []) True))))) (brP (!p1) (bound p0 (4 : Nat) ∧ brP (decide (p0 = (0 : Int))) (Q [V1.one (Lf.bool p1)] []) (brP (decide (p0 = (1 : Int))) (Q [V1.one (Lf.bool !p1)] []) (brP (decide (p0 = (2 : Int))) (Q [V1.one (Lf.bool false)] []) (brP (decide (p0 = (3 : Int))) (Q [V1.one (Lf.bool p2)] []) True)))) (bound p0 (4 : Nat) ∧ brP (decide (p0 = (0 : Int))) (Q [V1.one (Lf.bool p1)] []) (brP (decide (p0 = (1 : Int))) (Q [V1.one (Lf.bool !p1)] []) (brP (decide (p0 = (2 : Int))) (Q [V1.one (Lf.bool false)] []) (brP (decide (p0 = (3 : Int))) (Q [V1.one (Lf.bool false)] []) True)))))
theorem t59_mono {Q : List V1 → List Ob → Prop} {Q' : List V1 → List Ob → Prop} (hq : ∀ r h, Q r h → Q' r h) (p0 : K.ty (K.int IntKind.i64)) (p1 : K.ty K.bool) (p2 : K.ty K.bool) :
    t59 Q p0 p1 p2 → t59 Q' p0 p1 p2 :=
  brM (brM (andM (id) (brM (hq _ _) (brM (hq _ _) (brM (hq _ _) (brM (hq _ _) (id)))))) (andM (id) (brM (hq _ _) (brM (hq _ _) (brM (hq _ _) (brM (hq _ _) (id))))))) (brM (andM (id) (brM (hq _ _) (brM (hq _ _) (brM (hq _ _) (brM (hq _ _) (id)))))) (andM (id) (brM (hq _ _) (brM (hq _ _) (brM (hq _ _) (brM (hq _ _) (id)))))))
theorem t59_eq (Q : List V1 → List Ob → Prop) (p0 : K.ty (K.int IntKind.i64)) (p1 : K.ty K.bool) (p2 : K.ty K.bool) :
    t59 Q p0 p1 p2 = (afun tt E59 A59 Try.f59 (I59 p0 p1 p2) [] Q) := by kernel_rfl
def H59 (Q : List V1 → List Ob → Prop) (p0 : K.ty (K.int IntKind.i64)) (p1 : K.ty K.bool) (p2 : K.ty K.bool) : Prop := t59 Q p0 p1 p2
theorem ok59 (Q : List V1 → List Ob → Prop) (p0 : K.ty (K.int IntKind.i64)) (p1 : K.ty K.bool) (p2 : K.ty K.bool) (h : H59 Q p0 p1 p2) : Of (afun tt E59 A59 Try.f59 (I59 p0 p1 p2) [] Q) :=
  kcO (t59_eq Q p0 p1 p2) (t59_mono (fun _ _ h => h) p0 p1 p2 h)
theorem env59 : EnvOk Try.prog E59 := .nil
-- f60 "busbar/rungeval.writes" ['3', '4'] -> ['4', '4']
def A60 : Ann := []
def E60 : Env := []
def I60 (p0 : ((.int .i64) : K).ty) (p1 : (.bool : K).ty) : List V1 := [nfK (.int .i64) p0, nfK .bool p1]
def t60 (Q : List V1 → List Ob → Prop) (p0 : K.ty (K.int IntKind.i64)) (p1 : K.ty K.bool) : Prop :=
  bound p0 (4 : Nat) ∧ brP (decide (p0 = (0 : Int))) (bound (0 : Int) (2 : Nat) ∧ bound (1 : Int) (2 : Nat) ∧ Q [V1.one (Lf.bool p1), V1.one (Lf.bool true)] []) (brP (decide (p0 = (1 : Int))) (bound (0 : Int) (2 : Nat) ∧ bound (1 : Int) (2 : Nat) ∧ Q [V1.one (Lf.bool !p1), V1.one (Lf.bool true)] []) (brP (decide (p0 = (2 : Int))) (bound (0 : Int) (2 : Nat) ∧ bound (1 : Int) (2 : Nat) ∧ Q [V1.one (Lf.bool true), V1.one (Lf.bool p1)] []) (brP (decide (p0 = (3 : Int))) (bound (0 : Int) (2 : Nat) ∧ bound (1 : Int) (2 : Nat) ∧ Q [V1.one (Lf.bool false), V1.one (Lf.bool p1)] []) True)))
theorem t60_mono {Q : List V1 → List Ob → Prop} {Q' : List V1 → List Ob → Prop} (hq : ∀ r h, Q r h → Q' r h) (p0 : K.ty (K.int IntKind.i64)) (p1 : K.ty K.bool) :
    t60 Q p0 p1 → t60 Q' p0 p1 :=
  andM (id) (brM (andM (id) (andM (id) (hq _ _))) (brM (andM (id) (andM (id) (hq _ _))) (brM (andM (id) (andM (id) (hq _ _))) (brM (andM (id) (andM (id) (hq _ _))) (id)))))
theorem t60_eq (Q : List V1 → List Ob → Prop) (p0 : K.ty (K.int IntKind.i64)) (p1 : K.ty K.bool) :
    t60 Q p0 p1 = (afun tt E60 A60 Try.f60 (I60 p0 p1) [] Q) := by kernel_rfl
def H60 (Q : List V1 → List Ob → Prop) (p0 : K.ty (K.int IntKind.i64)) (p1 : K.ty K.bool) : Prop := t60 Q p0 p1
theorem ok60 (Q : List V1 → List Ob → Prop) (p0 : K.ty (K.int IntKind.i64)) (p1 : K.ty K.bool) (h : H60 Q p0 p1) : Of (afun tt E60 A60 Try.f60 (I60 p0 p1) [] Q) :=
  kcO (t60_eq Q p0 p1) (t60_mono (fun _ _ h => h) p0 p1 h)
theorem env60 : EnvOk Try.prog E60 := .nil
theorem spec58 : SpecOk Try.prog 58 sp58 := S3.ok tt_ok mixed env58 Try.func58 fun l s a Q h => ok58 Q l s a <| by
  unfold F58 readS at h
  refine brP_intro (fun c => by simpa [c] using h) (fun c => ?_)
  refine brP_intro (fun d => by simpa [c, d] using h) (fun d => ?_)
  simp only [c, d, cond_false] at h
  simp at c d
  refine ⟨⟨by omega, by omega⟩, ?_⟩
  refine brP_intro (fun e => ?_) (fun e => ?_)
  · simp at e; simpa [img, e] using h
  · refine brP_intro (fun f => ?_) (fun f => ?_)
    · simp at e f; simpa [img, e, f] using h
    · refine brP_intro (fun g => ?_) (fun g => trivial)
      simp at e f g; simpa [img, e, f, g] using h
theorem spec55 : SpecOk Try.prog 55 sp55 := S3.ok tt_ok mixed env55 Try.func55 fun s k a Q h => ok55 Q s k a <| by
  unfold F55 partE at h
  refine brP_intro (fun c => by simpa [c] using h) (fun c => ?_)
  exact brP_intro (fun d => by simpa [c, d] using h) (fun d => by simpa [c, d] using h)
theorem spec59 : SpecOk Try.prog 59 sp59 := S3.ok tt_ok mixed env59 Try.func59 fun k v was Q h => ok59 Q k v was <| by
  obtain ⟨hb, h⟩ := h
  obtain ⟨h0, h4⟩ := hb
  unfold conducting at h
  have key : ∀ b2 b3 : Bool, b2 = (v && !was) → b3 = (!v && was) → bound k 4 ∧ brP (decide (k = (0 : Int))) (Q [V1.one (Lf.bool v)] []) (brP (decide (k = (1 : Int))) (Q [V1.one (Lf.bool !v)] []) (brP (decide (k = (2 : Int))) (Q [V1.one (Lf.bool b2)] []) (brP (decide (k = (3 : Int))) (Q [V1.one (Lf.bool b3)] []) True))) := by
    rintro b2 b3 rfl rfl
    refine ⟨⟨h0, h4⟩, ?_⟩
    refine brP_intro (fun c => by simp at c; simpa [c] using h) (fun c => ?_)
    refine brP_intro (fun d => by simp at d; simpa [d] using h) (fun d => ?_)
    refine brP_intro (fun e => by simp at e; simpa [e] using h) (fun e => ?_)
    refine brP_intro (fun f => by simp at f; simpa [f] using h) (fun f => trivial)
  cases v <;> cases was <;> exact key _ _ rfl rfl
theorem spec60 : SpecOk Try.prog 60 sp60 := S2.ok tt_ok mixed env60 Try.func60 fun k v Q h => ok60 Q k v <| by
  obtain ⟨hb, h⟩ := h
  unfold writes at h
  refine ⟨hb, ?_⟩
  have b1 : bound 0 2 := ⟨by omega, by omega⟩
  have b2 : bound 1 2 := ⟨by omega, by omega⟩
  refine brP_intro (fun c => ⟨b1, b2, by simp at c; simpa [c] using h⟩) (fun c => ?_)
  refine brP_intro (fun d => ⟨b1, b2, by simp at d; simpa [d] using h⟩) (fun d => ?_)
  refine brP_intro (fun e => ⟨b1, b2, by simp at e; simpa [e] using h⟩) (fun e => ?_)
  refine brP_intro (fun f => ⟨b1, b2, by simp at f; simpa [f] using h⟩) (fun f => trivial)
theorem spec61 : SpecOk Try.prog 61 sp61 := S3.okS tt_ok mixed [k26, ki] env61 Try.func61 fun s a v Q h => ok61 _ s a v <| by
  obtain ⟨hs, h⟩ := h
  unfold writeS at h
  refine ⟨hs, ?_⟩
  refine brP_intro (fun c => ⟨hs.1, ?_⟩) (fun c => ?_)
  · refine brP_intro (fun d => ?_) (fun d => ?_)
    · simp only [c, d, cond_true] at h; exact h
    · simp only [c, d, cond_true, cond_false] at h; exact h
  · refine brP_intro (fun d => ⟨hs.2.1, ?_⟩) (fun d => ?_)
    · refine brP_intro (fun e => ?_) (fun e => ?_)
      · simp only [c, d, e, cond_true, cond_false] at h; exact h
      · simp only [c, d, e, cond_true, cond_false] at h; exact h
    · simp only [c, d, cond_false] at h; exact h
theorem spec24 : SpecOk Try.prog 24 sp24 := S2.ok tt_ok mixed env24 Try.func24 fun s st Q h => ok24 Q s st <| by
  unfold F24 fits at h
  have hw : ∀ x : Int, 0 ≤ x → x ≤ 3 → IntKind.i64.wrap (x + 1) = x + 1 := fun x h1 h2 => wrap_in (by omega) (by omega)
  obtain ⟨n, hn⟩ : ∃ n : Nat, n = 0 := ⟨_, rfl⟩
  refine ⟨n + 1 + 1 + 1 + 1, ?_⟩
  refine ⟨⟨by omega, by omega⟩, ⟨by omega, by omega⟩, ?_⟩
  refine brP_intro (fun _ => ?_) (fun c => by simp at c)
  refine brP_intro (fun c => ?_) (fun c => ?_)
  · have c : ¬ (st.1.length : Int) = s.2.1 := by simpa using c
    simpa [c, t24c0x0] using h
  have c : (st.1.length : Int) = s.2.1 := by simpa using c
  rw [hw 0 (by omega) (by omega)]
  refine ⟨⟨by omega, by omega⟩, ⟨by omega, by omega⟩, ?_⟩
  refine brP_intro (fun c => by simp at c) (fun _ => ?_)
  refine brP_intro (fun _ => ?_) (fun c => by simp at c)
  refine brP_intro (fun d => ?_) (fun d => ?_)
  · have d : ¬ (st.2.1.length : Int) = s.2.2.1 := by simpa using d
    simpa [c, d, t24c0x0] using h
  have d : (st.2.1.length : Int) = s.2.2.1 := by simpa using d
  rw [hw (0 + 1) (by omega) (by omega)]
  refine ⟨⟨by omega, by omega⟩, ⟨by omega, by omega⟩, ?_⟩
  refine brP_intro (fun c => by simp at c) (fun _ => ?_)
  refine brP_intro (fun c => by simp at c) (fun _ => ?_)
  refine brP_intro (fun _ => ?_) (fun c => by simp at c)
  refine brP_intro (fun e => ?_) (fun e => ?_)
  · have e : ¬ (st.2.2.length : Int) = s.2.2.2 := by simpa using e
    simpa [c, d, e, t24c0x0] using h
  have e : (st.2.2.length : Int) = s.2.2.2 := by simpa using e
  rw [hw (0 + 1 + 1) (by omega) (by omega)]
  show t24c0x1 Q s st _ _ _ _
  simpa [c, d, e, t24c0x1] using h
end Go.AM
