/- Functions of the program: what the laws let in. Conditions: none. -/
import Derived.Test.YtlfelhdcokadbaaD2
import Derived.Test.YtlfelhdcokadbaaB16
import Derived.Test.YtlfelhdcokadbaaB18
set_option linter.all false
namespace Go.AM
open Go.Proofs
-- f8 "busbar/busbarlaw20.TooLarge" ['24', '27', '28'] -> ['3']
def A8 : Ann := [(0, [2, 3, 4, 9, 10, 11], [2, 3, 4], [6])]
def E8 : Env := [(20, sp20), (21, sp21)]
def I8 (p0 : (k23 : K).ty) (p1 : (k26 : K).ty) (p2 : ((.slice 25 (.slice 4 .bool)) : K).ty) : List V1 := [nfK k23 p0, nfK k26 p1, nfK (.slice 25 (.slice 4 .bool)) p2]
noncomputable def L8_0 : Code := Code.a (Code.a (Code.b (Code.a (Code.b (Func.code Try.f8)))))
def S8_0 (l2 : List (K.ty (K.slice (4 : TypeId) K.bool))) (l9 : List (K.ty (K.slice (4 : TypeId) K.bool))) (x10 : Int) (x11 : Int) (xh0_0 : Int) (xh0_1 : Int) (xh0_2 : Int) (lh0_3 : List (K.ty k45)) (lh1_0 : List (K.ty K.bool)) (lh1_1 : List (K.ty K.bool)) (lh1_2 : List (K.ty K.bool)) : St := sp (30 : Nat) [((2 : Nat), V.v (V1.one (Lf.sl (25 : TypeId) (K.slice (4 : TypeId) K.bool) l2))), ((3 : Nat), V.v (V1.one (Lf.ptr (nat_lit 0) (nat_lit 0)))), ((4 : Nat), V.v (V1.one (Lf.ptr (nat_lit 1) (nat_lit 0)))), ((9 : Nat), V.v (V1.one (Lf.sl (25 : TypeId) (K.slice (4 : TypeId) K.bool) l9))), ((10 : Nat), V.v (V1.one (Lf.int IntKind.i64 x10))), ((11 : Nat), V.v (V1.one (Lf.int IntKind.i64 x11)))] [Ob.box (24 : Nat) [Lf.int IntKind.i64 xh0_0, Lf.int IntKind.i64 xh0_1, Lf.int IntKind.i64 xh0_2, Lf.sl (46 : TypeId) k45 lh0_3], Ob.box (27 : Nat) [Lf.sl (4 : TypeId) K.bool lh1_0, Lf.sl (4 : TypeId) K.bool lh1_1, Lf.sl (4 : TypeId) K.bool lh1_2]]
def X8_0_0 (x6 : Int) : St := sp (30 : Nat) [((6 : Nat), V.v (V1.one (Lf.int IntKind.i64 x6)))] []
def X8_0_1 (l2 : List (K.ty (K.slice (4 : TypeId) K.bool))) (xh0_0 : Int) (xh0_1 : Int) (xh0_2 : Int) (lh0_3 : List (K.ty k45)) (lh1_0 : List (K.ty K.bool)) (lh1_1 : List (K.ty K.bool)) (lh1_2 : List (K.ty K.bool)) : St := sp (30 : Nat) [((2 : Nat), V.v (V1.one (Lf.sl (25 : TypeId) (K.slice (4 : TypeId) K.bool) l2))), ((3 : Nat), V.v (V1.one (Lf.ptr (nat_lit 0) (nat_lit 0)))), ((4 : Nat), V.v (V1.one (Lf.ptr (nat_lit 1) (nat_lit 0))))] [Ob.box (24 : Nat) [Lf.int IntKind.i64 xh0_0, Lf.int IntKind.i64 xh0_1, Lf.int IntKind.i64 xh0_2, Lf.sl (46 : TypeId) k45 lh0_3], Ob.box (27 : Nat) [Lf.sl (4 : TypeId) K.bool lh1_0, Lf.sl (4 : TypeId) K.bool lh1_1, Lf.sl (4 : TypeId) K.bool lh1_2]]
def t8_0 (again : List (K.ty (K.slice (4 : TypeId) K.bool)) → List (K.ty (K.slice (4 : TypeId) K.bool)) → Int → Int → Int → Int → Int → List (K.ty k45) → List (K.ty K.bool) → List (K.ty K.bool) → List (K.ty K.bool) → Prop) (R0 : Int → Prop) (R1 : List (K.ty (K.slice (4 : TypeId) K.bool)) → Int → Int → Int → List (K.ty k45) → List (K.ty K.bool) → List (K.ty K.bool) → List (K.ty K.bool) → Prop) (l2 : List (K.ty (K.slice (4 : TypeId) K.bool))) (l9 : List (K.ty (K.slice (4 : TypeId) K.bool))) (x10 : Int) (x11 : Int) (xh0_0 : Int) (xh0_1 : Int) (xh0_2 : Int) (lh0_3 : List (K.ty k45)) (lh1_0 : List (K.ty K.bool)) (lh1_1 : List (K.ty K.bool)) (lh1_2 : List (K.ty K.bool)) : Prop :=
  brP (decide (x11 < x10)) (bound x11 (List.length l9) ∧ brP (decide ((↑(List.length (getE (K.slice (4 : TypeId) K.bool) l9 x11)) : Int) > (500 : Int))) (R0 (1 : Int)) (again l2 l9 x10 (IntKind.wrap IntKind.i64 (x11 + (1 : Int))) xh0_0 xh0_1 xh0_2 lh0_3 lh1_0 lh1_1 lh1_2)) (R1 l2 xh0_0 xh0_1 xh0_2 lh0_3 lh1_0 lh1_1 lh1_2)
theorem t8_0_mono {again : List (K.ty (K.slice (4 : TypeId) K.bool)) → List (K.ty (K.slice (4 : TypeId) K.bool)) → Int → Int → Int → Int → Int → List (K.ty k45) → List (K.ty K.bool) → List (K.ty K.bool) → List (K.ty K.bool) → Prop} {R0 : Int → Prop} {R1 : List (K.ty (K.slice (4 : TypeId) K.bool)) → Int → Int → Int → List (K.ty k45) → List (K.ty K.bool) → List (K.ty K.bool) → List (K.ty K.bool) → Prop} {again' : List (K.ty (K.slice (4 : TypeId) K.bool)) → List (K.ty (K.slice (4 : TypeId) K.bool)) → Int → Int → Int → Int → Int → List (K.ty k45) → List (K.ty K.bool) → List (K.ty K.bool) → List (K.ty K.bool) → Prop} {R0' : Int → Prop} {R1' : List (K.ty (K.slice (4 : TypeId) K.bool)) → Int → Int → Int → List (K.ty k45) → List (K.ty K.bool) → List (K.ty K.bool) → List (K.ty K.bool) → Prop} (ha : ∀ l2 l9 x10 x11 xh0_0 xh0_1 xh0_2 lh0_3 lh1_0 lh1_1 lh1_2, again l2 l9 x10 x11 xh0_0 xh0_1 xh0_2 lh0_3 lh1_0 lh1_1 lh1_2 → again' l2 l9 x10 x11 xh0_0 xh0_1 xh0_2 lh0_3 lh1_0 lh1_1 lh1_2) (hr0 : ∀ x6, R0 x6 → R0' x6) (hr1 : ∀ l2 xh0_0 xh0_1 xh0_2 lh0_3 lh1_0 lh1_1 lh1_2, R1 l2 xh0_0 xh0_1 xh0_2 lh0_3 lh1_0 lh1_1 lh1_2 → R1' l2 xh0_0 xh0_1 xh0_2 lh0_3 lh1_0 lh1_1 lh1_2) (l2 : List (K.ty (K.slice (4 : TypeId) K.bool))) (l9 : List (K.ty (K.slice (4 : TypeId) K.bool))) (x10 : Int) (x11 : Int) (xh0_0 : Int) (xh0_1 : Int) (xh0_2 : Int) (lh0_3 : List (K.ty k45)) (lh1_0 : List (K.ty K.bool)) (lh1_1 : List (K.ty K.bool)) (lh1_2 : List (K.ty K.bool)) :
    t8_0 again R0 R1 l2 l9 x10 x11 xh0_0 xh0_1 xh0_2 lh0_3 lh1_0 lh1_1 lh1_2 → t8_0 again' R0' R1' l2 l9 x10 x11 xh0_0 xh0_1 xh0_2 lh0_3 lh1_0 lh1_1 lh1_2 :=
  brM (andM (id) (brM (hr0 _) (ha _ _ _ _ _ _ _ _ _ _ _))) (hr1 _ _ _ _ _ _ _ _)
theorem t8_0_eq (n : Nat) (Q : Ex → St → Prop) (l2 : List (K.ty (K.slice (4 : TypeId) K.bool))) (l9 : List (K.ty (K.slice (4 : TypeId) K.bool))) (x10 : Int) (x11 : Int) (xh0_0 : Int) (xh0_1 : Int) (xh0_2 : Int) (lh0_3 : List (K.ty k45)) (lh1_0 : List (K.ty K.bool)) (lh1_1 : List (K.ty K.bool)) (lh1_2 : List (K.ty K.bool)) :
    t8_0 (fun l2 l9 x10 x11 xh0_0 xh0_1 xh0_2 lh0_3 lh1_0 lh1_1 lh1_2 => loopP (awp tt E8 A8 L8_0 0) ([(2 : Nat), (3 : Nat), (4 : Nat), (9 : Nat), (10 : Nat), (11 : Nat)], [(2 : Nat), (3 : Nat), (4 : Nat)], [(6 : Nat)]) n (S8_0 l2 l9 x10 x11 xh0_0 xh0_1 xh0_2 lh0_3 lh1_0 lh1_1 lh1_2) Q) (fun x6 => Q (Ex.ret) (X8_0_0 x6)) (fun l2 xh0_0 xh0_1 xh0_2 lh0_3 lh1_0 lh1_1 lh1_2 => Q (Ex.exit (nat_lit 0)) (X8_0_1 l2 xh0_0 xh0_1 xh0_2 lh0_3 lh1_0 lh1_1 lh1_2)) l2 l9 x10 x11 xh0_0 xh0_1 xh0_2 lh0_3 lh1_0 lh1_1 lh1_2 = (loopP (awp tt E8 A8 L8_0 0) ([(2 : Nat), (3 : Nat), (4 : Nat), (9 : Nat), (10 : Nat), (11 : Nat)], [(2 : Nat), (3 : Nat), (4 : Nat)], [(6 : Nat)]) (n + 1) (S8_0 l2 l9 x10 x11 xh0_0 xh0_1 xh0_2 lh0_3 lh1_0 lh1_1 lh1_2) Q) := by kernel_rfl
def G8_0 (R0 : Int → Prop) (R1 : List (K.ty (K.slice (4 : TypeId) K.bool)) → Int → Int → Int → List (K.ty k45) → List (K.ty K.bool) → List (K.ty K.bool) → List (K.ty K.bool) → Prop) : Nat → List (K.ty (K.slice (4 : TypeId) K.bool)) → List (K.ty (K.slice (4 : TypeId) K.bool)) → Int → Int → Int → Int → Int → List (K.ty k45) → List (K.ty K.bool) → List (K.ty K.bool) → List (K.ty K.bool) → Prop
  | 0, _, _, _, _, _, _, _, _, _, _, _ => False
  | n + 1, l2, l9, x10, x11, xh0_0, xh0_1, xh0_2, lh0_3, lh1_0, lh1_1, lh1_2 => t8_0 (G8_0 R0 R1 n) R0 R1 l2 l9 x10 x11 xh0_0 xh0_1 xh0_2 lh0_3 lh1_0 lh1_1 lh1_2
theorem T8_0 {R0 : Int → Prop} {R1 : List (K.ty (K.slice (4 : TypeId) K.bool)) → Int → Int → Int → List (K.ty k45) → List (K.ty K.bool) → List (K.ty K.bool) → List (K.ty K.bool) → Prop} (Q : Ex → St → Prop) (hr0 : ∀ x6, R0 x6 → Of (Q (Ex.ret) (X8_0_0 x6))) (hr1 : ∀ l2 xh0_0 xh0_1 xh0_2 lh0_3 lh1_0 lh1_1 lh1_2, R1 l2 xh0_0 xh0_1 xh0_2 lh0_3 lh1_0 lh1_1 lh1_2 → Of (Q (Ex.exit (nat_lit 0)) (X8_0_1 l2 xh0_0 xh0_1 xh0_2 lh0_3 lh1_0 lh1_1 lh1_2))) : ∀ (n : Nat) (l2 : List (K.ty (K.slice (4 : TypeId) K.bool))) (l9 : List (K.ty (K.slice (4 : TypeId) K.bool))) (x10 : Int) (x11 : Int) (xh0_0 : Int) (xh0_1 : Int) (xh0_2 : Int) (lh0_3 : List (K.ty k45)) (lh1_0 : List (K.ty K.bool)) (lh1_1 : List (K.ty K.bool)) (lh1_2 : List (K.ty K.bool)), G8_0 R0 R1 n l2 l9 x10 x11 xh0_0 xh0_1 xh0_2 lh0_3 lh1_0 lh1_1 lh1_2 → Of (loopP (awp tt E8 A8 L8_0 0) ([(2 : Nat), (3 : Nat), (4 : Nat), (9 : Nat), (10 : Nat), (11 : Nat)], [(2 : Nat), (3 : Nat), (4 : Nat)], [(6 : Nat)]) n (S8_0 l2 l9 x10 x11 xh0_0 xh0_1 xh0_2 lh0_3 lh1_0 lh1_1 lh1_2) Q) := by
  intro n
  induction n with
  | zero => intro l2 l9 x10 x11 xh0_0 xh0_1 xh0_2 lh0_3 lh1_0 lh1_1 lh1_2 h; exact h.elim
  | succ n ih =>
    intro l2 l9 x10 x11 xh0_0 xh0_1 xh0_2 lh0_3 lh1_0 lh1_1 lh1_2 h
    exact kcO (t8_0_eq n Q l2 l9 x10 x11 xh0_0 xh0_1 xh0_2 lh0_3 lh1_0 lh1_1 lh1_2) (t8_0_mono (fun _ _ _ _ _ _ _ _ _ _ _ h => (ih _ _ _ _ _ _ _ _ _ _ _ h).out) (fun _ h => (hr0 _ h).out) (fun _ _ _ _ _ _ _ _ h => (hr1 _ _ _ _ _ _ _ _ h).out) l2 l9 x10 x11 xh0_0 xh0_1 xh0_2 lh0_3 lh1_0 lh1_1 lh1_2 h)
def t8 (Q : List V1 → List Ob → Prop) (lp0 : K.ty k23 → K.ty k26 → K.ty (K.slice (25 : TypeId) (K.slice (4 : TypeId) K.bool)) → Prop) (p0 : K.ty k23) (p1 : K.ty k26) (p2 : K.ty (K.slice (25 : TypeId) (K.slice (4 : TypeId) K.bool))) : Prop :=
  lp0 p0 p1 p2
theorem t8_mono {Q : List V1 → List Ob → Prop} {Q' : List V1 → List Ob → Prop} {lp0 : K.ty k23 → K.ty k26 → K.ty (K.slice (25 : TypeId) (K.slice (4 : TypeId) K.bool)) → Prop} {lp0' : K.ty k23 → K.ty k26 → K.ty (K.slice (25 : TypeId) (K.slice (4 : TypeId) K.bool)) → Prop} (hq : ∀ r h, Q r h → Q' r h) (hlp0 : ∀ p0 p1 p2, lp0 p0 p1 p2 → lp0' p0 p1 p2) (p0 : K.ty k23) (p1 : K.ty k26) (p2 : K.ty (K.slice (25 : TypeId) (K.slice (4 : TypeId) K.bool))) :
    t8 Q lp0 p0 p1 p2 → t8 Q' lp0' p0 p1 p2 :=
  hlp0 _ _ _
theorem t8_eq (Q : List V1 → List Ob → Prop) (p0 : K.ty k23) (p1 : K.ty k26) (p2 : K.ty (K.slice (25 : TypeId) (K.slice (4 : TypeId) K.bool))) :
    t8 Q (fun p0 p1 p2 => ∃ m, loopP (awp tt E8 A8 L8_0 0) ([(2 : Nat), (3 : Nat), (4 : Nat), (9 : Nat), (10 : Nat), (11 : Nat)], [(2 : Nat), (3 : Nat), (4 : Nat)], [(6 : Nat)]) m (S8_0 (p2) (p2) ((↑(List.length p2) : Int)) ((0 : Int)) (p0.fst) (p0.snd.fst) (p0.snd.snd.fst) (p0.snd.snd.snd) (p1.fst) (p1.snd.fst) (p1.snd.snd)) (blkC (0 : Nat) (seqC (awp tt E8 A8 (Code.b (Code.b (Func.code Try.f8))) (0 : Nat)) (topC tt Try.f8 0 Q)))) p0 p1 p2 = (afun tt E8 A8 Try.f8 (I8 p0 p1 p2) [] Q) := by kernel_rfl
def t8c0x1 (Q : List V1 → List Ob → Prop) (p0 : K.ty k23) (p1 : K.ty k26) (p2 : K.ty (K.slice (25 : TypeId) (K.slice (4 : TypeId) K.bool))) (l2e3 : List (K.ty (K.slice (4 : TypeId) K.bool))) (xh0_0e3 : Int) (xh0_1e3 : Int) (xh0_2e3 : Int) (lh0_3e3 : List (K.ty k45)) (lh1_0e3 : List (K.ty K.bool)) (lh1_1e3 : List (K.ty K.bool)) (lh1_2e3 : List (K.ty K.bool)) : Prop :=
  brP (decide ((↑(List.length l2e3) : Int) > (30 : Int))) (Q [V1.one (Lf.int IntKind.i64 (1 : Int))] []) (List.length (List.set (List.replicate (1 : Nat) (K.dflt k26)) (0 : Nat) (lh1_0e3, lh1_1e3, lh1_2e3)) ≤ (1000000 : Nat) ∧ brP (decide ((bif List.any (List.set (List.replicate (1 : Nat) (K.dflt k26)) (0 : Nat) (lh1_0e3, lh1_1e3, lh1_2e3)) bigS then (1 : Int) else (0 : Int)) > (0 : Int))) (Q [V1.one (Lf.int IntKind.i64 (1 : Int))] []) (wideL (xh0_0e3, xh0_1e3, xh0_2e3, lh0_3e3) ∧ ∀ (v11 : Int), isBit v11 → (v11 = (0 : Int) → okL (xh0_0e3, xh0_1e3, xh0_2e3, lh0_3e3)) → Q [V1.one (Lf.int IntKind.i64 v11)] []))
theorem t8c0x1_mono {Q : List V1 → List Ob → Prop} {Q' : List V1 → List Ob → Prop} (hq : ∀ r h, Q r h → Q' r h) (p0 : K.ty k23) (p1 : K.ty k26) (p2 : K.ty (K.slice (25 : TypeId) (K.slice (4 : TypeId) K.bool))) (l2e3 : List (K.ty (K.slice (4 : TypeId) K.bool))) (xh0_0e3 : Int) (xh0_1e3 : Int) (xh0_2e3 : Int) (lh0_3e3 : List (K.ty k45)) (lh1_0e3 : List (K.ty K.bool)) (lh1_1e3 : List (K.ty K.bool)) (lh1_2e3 : List (K.ty K.bool)) :
    t8c0x1 Q p0 p1 p2 l2e3 xh0_0e3 xh0_1e3 xh0_2e3 lh0_3e3 lh1_0e3 lh1_1e3 lh1_2e3 → t8c0x1 Q' p0 p1 p2 l2e3 xh0_0e3 xh0_1e3 xh0_2e3 lh0_3e3 lh1_0e3 lh1_1e3 lh1_2e3 :=
  brM (hq _ _) (andM (id) (brM (hq _ _) (andM (id) (fun hh x => ap (hh x) (fun hh x => ap (hh x) (fun hh x => ap (hh x) (hq _ _)))))))
theorem t8c0x1_eq (Q : List V1 → List Ob → Prop) (p0 : K.ty k23) (p1 : K.ty k26) (p2 : K.ty (K.slice (25 : TypeId) (K.slice (4 : TypeId) K.bool))) (l2e3 : List (K.ty (K.slice (4 : TypeId) K.bool))) (xh0_0e3 : Int) (xh0_1e3 : Int) (xh0_2e3 : Int) (lh0_3e3 : List (K.ty k45)) (lh1_0e3 : List (K.ty K.bool)) (lh1_1e3 : List (K.ty K.bool)) (lh1_2e3 : List (K.ty K.bool)) :
    t8c0x1 Q p0 p1 p2 l2e3 xh0_0e3 xh0_1e3 xh0_2e3 lh0_3e3 lh1_0e3 lh1_1e3 lh1_2e3 = ((blkC (0 : Nat) (seqC (awp tt E8 A8 (Code.b (Code.b (Func.code Try.f8))) (0 : Nat)) (topC tt Try.f8 0 Q))) (Ex.exit (nat_lit 0)) (X8_0_1 l2e3 xh0_0e3 xh0_1e3 xh0_2e3 lh0_3e3 lh1_0e3 lh1_1e3 lh1_2e3)) := by kernel_rfl
def t8c0x0 (Q : List V1 → List Ob → Prop) (p0 : K.ty k23) (p1 : K.ty k26) (p2 : K.ty (K.slice (25 : TypeId) (K.slice (4 : TypeId) K.bool))) (x6e3 : Int) : Prop :=
  Q [V1.one (Lf.int IntKind.i64 x6e3)] []
theorem t8c0x0_mono {Q : List V1 → List Ob → Prop} {Q' : List V1 → List Ob → Prop} (hq : ∀ r h, Q r h → Q' r h) (p0 : K.ty k23) (p1 : K.ty k26) (p2 : K.ty (K.slice (25 : TypeId) (K.slice (4 : TypeId) K.bool))) (x6e3 : Int) :
    t8c0x0 Q p0 p1 p2 x6e3 → t8c0x0 Q' p0 p1 p2 x6e3 :=
  hq _ _
theorem t8c0x0_eq (Q : List V1 → List Ob → Prop) (p0 : K.ty k23) (p1 : K.ty k26) (p2 : K.ty (K.slice (25 : TypeId) (K.slice (4 : TypeId) K.bool))) (x6e3 : Int) :
    t8c0x0 Q p0 p1 p2 x6e3 = ((blkC (0 : Nat) (seqC (awp tt E8 A8 (Code.b (Code.b (Func.code Try.f8))) (0 : Nat)) (topC tt Try.f8 0 Q))) (Ex.ret) (X8_0_0 x6e3)) := by kernel_rfl
def H8 (Q : List V1 → List Ob → Prop) (p0 : K.ty k23) (p1 : K.ty k26) (p2 : K.ty (K.slice (25 : TypeId) (K.slice (4 : TypeId) K.bool))) : Prop := t8 Q (fun p0 p1 p2 => ∃ m, G8_0 (fun x6e3 => t8c0x0 Q p0 p1 p2 x6e3) (fun l2e3 xh0_0e3 xh0_1e3 xh0_2e3 lh0_3e3 lh1_0e3 lh1_1e3 lh1_2e3 => t8c0x1 Q p0 p1 p2 l2e3 xh0_0e3 xh0_1e3 xh0_2e3 lh0_3e3 lh1_0e3 lh1_1e3 lh1_2e3) m (p2) (p2) ((↑(List.length p2) : Int)) ((0 : Int)) (p0.fst) (p0.snd.fst) (p0.snd.snd.fst) (p0.snd.snd.snd) (p1.fst) (p1.snd.fst) (p1.snd.snd)) p0 p1 p2
theorem ok8 (Q : List V1 → List Ob → Prop) (p0 : K.ty k23) (p1 : K.ty k26) (p2 : K.ty (K.slice (25 : TypeId) (K.slice (4 : TypeId) K.bool))) (h : H8 Q p0 p1 p2) : Of (afun tt E8 A8 Try.f8 (I8 p0 p1 p2) [] Q) :=
  kcO (t8_eq Q p0 p1 p2) (t8_mono (fun _ _ h => h) (fun p0 p1 p2 ⟨m, h⟩ => ⟨m, (T8_0 _ (fun x6e3 h => kcO (t8c0x0_eq _ _ _ _ _) (t8c0x0_mono (fun _ _ h => h) _ _ _ _ h)) (fun l2e3 xh0_0e3 xh0_1e3 xh0_2e3 lh0_3e3 lh1_0e3 lh1_1e3 lh1_2e3 h => kcO (t8c0x1_eq _ _ _ _ _ _ _ _ _ _ _ _) (t8c0x1_mono (fun _ _ h => h) _ _ _ _ _ _ _ _ _ _ _ h)) m _ _ _ _ _ _ _ _ _ _ _ h).out⟩) p0 p1 p2 h)
theorem env8 : EnvOk Try.prog E8 := .cons spec20 (by kernel_rfl) <| .cons spec21 (by kernel_rfl) <| .nil
theorem loop8 (ins : List (List Bool)) (a b c : Int) (rs : List Rung) (s1 s2 s3 : List Bool) (R0 : Int → Prop) (R1 : List (List Bool) → Int → Int → Int → List Rung → List Bool → List Bool → List Bool → Prop) (hl : ins.length ≤ 4611686018427387904) (h0 : R0 1)
    (h : (∀ x ∈ ins, x.length ≤ 500) → R1 ins a b c rs s1 s2 s3) :
    ∀ n (i : Nat), ins.length - i < n → i ≤ ins.length → (∀ x ∈ ins.take i, x.length ≤ 500) → G8_0 R0 R1 n ins ins ins.length i a b c rs s1 s2 s3 := by
  intro n
  induction n with
  | zero => intro i h; omega
  | succ n ih =>
    intro i hn hi ha
    refine brP_intro (fun d => ?_) (fun d => ?_)
    · have d : i < ins.length := by simpa using d
      refine ⟨⟨by omega, by omega⟩, ?_⟩
      refine brP_intro (fun e => h0) (fun e => ?_)
      have e : ¬ ((List.length (getE kbs ins i) : Nat) : Int) > 500 := by simpa using e
      rw [wrap_in (x := (i : Int) + 1) (by omega) (by omega)]
      refine ih (i + 1) (by omega) (by omega) fun r hr => ?_
      rw [List.take_succ_eq_append_getElem d] at hr
      rcases List.mem_append.1 hr with hr | hr
      · exact ha r hr
      · have hg : getE kbs ins i = ins[i] := by simp [getE, List.getD, d]
        rw [List.mem_singleton] at hr
        rw [hr, ← hg]
        omega
    · have d : ¬ i < ins.length := by simpa using d
      rw [List.take_of_length_le (by omega)] at ha
      exact h ha
theorem spec8 : SpecOk Try.prog 8 sp8 := S3.ok tt_ok mixed env8 Try.func8 fun (l : Lad) (st : Sta) (ins : List (List Bool)) Q h => ok8 Q l st ins <| by
  obtain ⟨⟨h1, h2⟩, h⟩ := h
  have one : Q [.one (.int .i64 1)] [] := h 1 (.inr rfl) (fun e => by cases e)
  refine ⟨ins.length + 1, loop8 ins l.1 l.2.1 l.2.2.1 (Lad.rungs l) st.1 st.2.1 st.2.2 _ _ h2 one (fun ha => ?_) _ 0 (by omega) (by omega) (by simp)⟩
  refine brP_intro (fun d => one) (fun d => ⟨by simp, ?_⟩)
  have d : ¬ (ins.length : Int) > 30 := by simpa using d
  refine brP_intro (fun e => one) (fun e => ⟨h1, fun v hv hok => h v hv fun e0 => ⟨hok e0, ?_, by omega, ha⟩⟩)
  cases hb : bigS st with
  | false => rfl
  | true =>
    have : (List.any [st] bigS) = true := by simp [hb]
    have e2 : decide ((bif List.any [st] bigS then (1 : Int) else 0) > 0) = false := e
    rw [this] at e2
    simp at e2
end Go.AM
