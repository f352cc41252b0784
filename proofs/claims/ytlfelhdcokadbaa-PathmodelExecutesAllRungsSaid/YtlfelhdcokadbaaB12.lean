/- Functions of the program: a rung's contacts. Conditions: none. -/
import Derived.Test.YtlfelhdcokadbaaB5
set_option linter.all false
namespace Go.AM
open Go.Proofs
-- f43 "busbar/rungeval.Contacts" ['46', '25', '27', '3'] -> ['25', '27', '32']
def A43 : Ann := [(0, [1, 3, 6, 9, 11, 12, 25, 26, 27], [9, 11, 12], [8, 9, 10])]
def E43 : Env := [(25, sp25), (51, sp51), (58, sp58), (59, sp59)]
def I43 (p0 : (k45 : K).ty) (p1 : ((.slice 4 .bool) : K).ty) (p2 : (k26 : K).ty) (p3 : ((.int .i64) : K).ty) : List V1 := [nfK k45 p0, nfK (.slice 4 .bool) p1, nfK k26 p2, nfK (.int .i64) p3]
noncomputable def L43_0 : Code := Code.a (Code.a (Code.b (Code.a (Code.b (Code.b (Code.b (Func.code Try.f43)))))))
def S43_0 (l1 : List (K.ty K.bool)) (x3 : Int) (l25 : List (K.ty k74)) (x26 : Int) (x27 : Int) (lh0_0 : List (K.ty K.bool)) (lh0_1 : List (K.ty K.bool)) (lh0_2 : List (K.ty K.bool)) (w3 : List (K.ty ((4 : TypeId), K.bool).snd)) (w4 : List (K.ty K.bool)) (w5 : List (K.ty K.bool)) (w6 : List (K.ty K.bool)) : St := sp (88 : Nat) [((1 : Nat), V.v (V1.one (Lf.sl (4 : TypeId) K.bool l1))), ((3 : Nat), V.v (V1.one (Lf.int IntKind.i64 x3))), ((6 : Nat), V.v (V1.one (Lf.ptr (nat_lit 0) (nat_lit 0)))), ((9 : Nat), V.v (V1.one (Lf.ptr (nat_lit 1) (nat_lit 0)))), ((11 : Nat), V.v (V1.one (Lf.ptr (nat_lit 2) (nat_lit 0)))), ((12 : Nat), V.v (V1.one (Lf.own (nat_lit 3)))), ((25 : Nat), V.v (V1.one (Lf.sl (75 : TypeId) k74 l25))), ((26 : Nat), V.v (V1.one (Lf.int IntKind.i64 x26))), ((27 : Nat), V.v (V1.one (Lf.int IntKind.i64 x27)))] [Ob.box (27 : Nat) [Lf.sl (4 : TypeId) K.bool lh0_0, Lf.sl (4 : TypeId) K.bool lh0_1, Lf.sl (4 : TypeId) K.bool lh0_2], Ob.box (27 : Nat) [Lf.nils, Lf.nils, Lf.nils], Ob.box (27 : Nat) [Lf.own (nat_lit 4), Lf.own (nat_lit 5), Lf.own (nat_lit 6)], Ob.row (4 : TypeId) K.bool w3, Ob.row (4 : TypeId) K.bool w4, Ob.row (4 : TypeId) K.bool w5, Ob.row (4 : TypeId) K.bool w6]
def X43_0_0 (x10 : Int) (w0 : List (K.ty K.bool)) : St := sp (88 : Nat) [((8 : Nat), V.v (V1.one (Lf.own (nat_lit 0)))), ((9 : Nat), V.v (V1.one (Lf.ptr (nat_lit 1) (nat_lit 0)))), ((10 : Nat), V.v (V1.one (Lf.int IntKind.i64 x10)))] [Ob.row (4 : TypeId) K.bool w0, Ob.box (27 : Nat) [Lf.nils, Lf.nils, Lf.nils]]
def X43_0_1 (w2 : List (K.ty K.bool)) (w3 : List (K.ty K.bool)) (w4 : List (K.ty K.bool)) (w5 : List (K.ty K.bool)) : St := sp (88 : Nat) [((9 : Nat), V.v (V1.one (Lf.ptr (nat_lit 0) (nat_lit 0)))), ((11 : Nat), V.v (V1.one (Lf.ptr (nat_lit 1) (nat_lit 0)))), ((12 : Nat), V.v (V1.one (Lf.own (nat_lit 2))))] [Ob.box (27 : Nat) [Lf.nils, Lf.nils, Lf.nils], Ob.box (27 : Nat) [Lf.own (nat_lit 3), Lf.own (nat_lit 4), Lf.own (nat_lit 5)], Ob.row (4 : TypeId) K.bool w2, Ob.row (4 : TypeId) K.bool w3, Ob.row (4 : TypeId) K.bool w4, Ob.row (4 : TypeId) K.bool w5]
def t43_0 (again : List (K.ty K.bool) → Int → List (K.ty k74) → Int → Int → List (K.ty K.bool) → List (K.ty K.bool) → List (K.ty K.bool) → List (K.ty ((4 : TypeId), K.bool).snd) → List (K.ty K.bool) → List (K.ty K.bool) → List (K.ty K.bool) → Prop) (R0 : Int → List (K.ty K.bool) → Prop) (R1 : List (K.ty K.bool) → List (K.ty K.bool) → List (K.ty K.bool) → List (K.ty K.bool) → Prop) (l1 : List (K.ty K.bool)) (x3 : Int) (l25 : List (K.ty k74)) (x26 : Int) (x27 : Int) (lh0_0 : List (K.ty K.bool)) (lh0_1 : List (K.ty K.bool)) (lh0_2 : List (K.ty K.bool)) (w3 : List (K.ty ((4 : TypeId), K.bool).snd)) (w4 : List (K.ty K.bool)) (w5 : List (K.ty K.bool)) (w6 : List (K.ty K.bool)) : Prop :=
  brP (decide (x27 < x26)) (bound x27 (List.length l25) ∧ brP (decide ((getE k74 l25 x27).fst < (0 : Int))) (R0 (8 : Int) []) (brP (decide ((getE k74 l25 x27).fst ≥ (4 : Int))) (R0 (8 : Int) []) (brP ((readS l1 (lh0_0, lh0_1, lh0_2) (getE k74 l25 x27).snd.fst).snd != (0 : Int)) (R0 (readS l1 (lh0_0, lh0_1, lh0_2) (getE k74 l25 x27).snd.fst).snd []) (brP (isEdge (getE k74 l25 x27)) (brP (decide (x3 < (0 : Int))) (R0 (3 : Int) []) (brP (decide (x3 ≥ (↑(List.length w6) : Int))) (R0 (3 : Int) []) (bound x3 (List.length w6) ∧ bound x3 (List.length w6) ∧ bound (getE k74 l25 x27).fst (4 : Nat) ∧ bound x27 (List.length w3) ∧ again l1 (IntKind.wrap IntKind.i64 (x3 + (1 : Int))) l25 x26 (IntKind.wrap IntKind.i64 (x27 + (1 : Int))) lh0_0 lh0_1 lh0_2 (List.set w3 (Int.toNat x27) (conducting (getE k74 l25 x27).fst (readS l1 (lh0_0, lh0_1, lh0_2) (getE k74 l25 x27).snd.fst).fst (getE K.bool w6 x3))) w4 w5 (List.set w6 (Int.toNat x3) (readS l1 (lh0_0, lh0_1, lh0_2) (getE k74 l25 x27).snd.fst).fst)))) (bound (getE k74 l25 x27).fst (4 : Nat) ∧ bound x27 (List.length w3) ∧ again l1 x3 l25 x26 (IntKind.wrap IntKind.i64 (x27 + (1 : Int))) lh0_0 lh0_1 lh0_2 (List.set w3 (Int.toNat x27) (conducting (getE k74 l25 x27).fst (readS l1 (lh0_0, lh0_1, lh0_2) (getE k74 l25 x27).snd.fst).fst false)) w4 w5 w6))))) (R1 w3 w4 w5 w6)
theorem t43_0_mono {again : List (K.ty K.bool) → Int → List (K.ty k74) → Int → Int → List (K.ty K.bool) → List (K.ty K.bool) → List (K.ty K.bool) → List (K.ty ((4 : TypeId), K.bool).snd) → List (K.ty K.bool) → List (K.ty K.bool) → List (K.ty K.bool) → Prop} {R0 : Int → List (K.ty K.bool) → Prop} {R1 : List (K.ty K.bool) → List (K.ty K.bool) → List (K.ty K.bool) → List (K.ty K.bool) → Prop} {again' : List (K.ty K.bool) → Int → List (K.ty k74) → Int → Int → List (K.ty K.bool) → List (K.ty K.bool) → List (K.ty K.bool) → List (K.ty ((4 : TypeId), K.bool).snd) → List (K.ty K.bool) → List (K.ty K.bool) → List (K.ty K.bool) → Prop} {R0' : Int → List (K.ty K.bool) → Prop} {R1' : List (K.ty K.bool) → List (K.ty K.bool) → List (K.ty K.bool) → List (K.ty K.bool) → Prop} (ha : ∀ l1 x3 l25 x26 x27 lh0_0 lh0_1 lh0_2 w3 w4 w5 w6, again l1 x3 l25 x26 x27 lh0_0 lh0_1 lh0_2 w3 w4 w5 w6 → again' l1 x3 l25 x26 x27 lh0_0 lh0_1 lh0_2 w3 w4 w5 w6) (hr0 : ∀ x10 w0, R0 x10 w0 → R0' x10 w0) (hr1 : ∀ w2 w3 w4 w5, R1 w2 w3 w4 w5 → R1' w2 w3 w4 w5) (l1 : List (K.ty K.bool)) (x3 : Int) (l25 : List (K.ty k74)) (x26 : Int) (x27 : Int) (lh0_0 : List (K.ty K.bool)) (lh0_1 : List (K.ty K.bool)) (lh0_2 : List (K.ty K.bool)) (w3 : List (K.ty ((4 : TypeId), K.bool).snd)) (w4 : List (K.ty K.bool)) (w5 : List (K.ty K.bool)) (w6 : List (K.ty K.bool)) :
    t43_0 again R0 R1 l1 x3 l25 x26 x27 lh0_0 lh0_1 lh0_2 w3 w4 w5 w6 → t43_0 again' R0' R1' l1 x3 l25 x26 x27 lh0_0 lh0_1 lh0_2 w3 w4 w5 w6 :=
  brM (andM (id) (brM (hr0 _ _) (brM (hr0 _ _) (brM (hr0 _ _) (brM (brM (hr0 _ _) (brM (hr0 _ _) (andM (id) (andM (id) (andM (id) (andM (id) (ha _ _ _ _ _ _ _ _ _ _ _ _))))))) (andM (id) (andM (id) (ha _ _ _ _ _ _ _ _ _ _ _ _)))))))) (hr1 _ _ _ _)
theorem t43_0_eq (n : Nat) (Q : Ex → St → Prop) (l1 : List (K.ty K.bool)) (x3 : Int) (l25 : List (K.ty k74)) (x26 : Int) (x27 : Int) (lh0_0 : List (K.ty K.bool)) (lh0_1 : List (K.ty K.bool)) (lh0_2 : List (K.ty K.bool)) (w3 : List (K.ty ((4 : TypeId), K.bool).snd)) (w4 : List (K.ty K.bool)) (w5 : List (K.ty K.bool)) (w6 : List (K.ty K.bool)) :
    t43_0 (fun l1 x3 l25 x26 x27 lh0_0 lh0_1 lh0_2 w3 w4 w5 w6 => loopP (awp tt E43 A43 L43_0 0) ([(1 : Nat), (3 : Nat), (6 : Nat), (9 : Nat), (11 : Nat), (12 : Nat), (25 : Nat), (26 : Nat), (27 : Nat)], [(9 : Nat), (11 : Nat), (12 : Nat)], [(8 : Nat), (9 : Nat), (10 : Nat)]) n (S43_0 l1 x3 l25 x26 x27 lh0_0 lh0_1 lh0_2 w3 w4 w5 w6) Q) (fun x10 w0 => Q (Ex.ret) (X43_0_0 x10 w0)) (fun w2 w3 w4 w5 => Q (Ex.exit (nat_lit 0)) (X43_0_1 w2 w3 w4 w5)) l1 x3 l25 x26 x27 lh0_0 lh0_1 lh0_2 w3 w4 w5 w6 = (loopP (awp tt E43 A43 L43_0 0) ([(1 : Nat), (3 : Nat), (6 : Nat), (9 : Nat), (11 : Nat), (12 : Nat), (25 : Nat), (26 : Nat), (27 : Nat)], [(9 : Nat), (11 : Nat), (12 : Nat)], [(8 : Nat), (9 : Nat), (10 : Nat)]) (n + 1) (S43_0 l1 x3 l25 x26 x27 lh0_0 lh0_1 lh0_2 w3 w4 w5 w6) Q) := by kernel_rfl
def G43_0 (R0 : Int → List (K.ty K.bool) → Prop) (R1 : List (K.ty K.bool) → List (K.ty K.bool) → List (K.ty K.bool) → List (K.ty K.bool) → Prop) : Nat → List (K.ty K.bool) → Int → List (K.ty k74) → Int → Int → List (K.ty K.bool) → List (K.ty K.bool) → List (K.ty K.bool) → List (K.ty ((4 : TypeId), K.bool).snd) → List (K.ty K.bool) → List (K.ty K.bool) → List (K.ty K.bool) → Prop
  | 0, _, _, _, _, _, _, _, _, _, _, _, _ => False
  | n + 1, l1, x3, l25, x26, x27, lh0_0, lh0_1, lh0_2, w3, w4, w5, w6 => t43_0 (G43_0 R0 R1 n) R0 R1 l1 x3 l25 x26 x27 lh0_0 lh0_1 lh0_2 w3 w4 w5 w6
theorem T43_0 {R0 : Int → List (K.ty K.bool) → Prop} {R1 : List (K.ty K.bool) → List (K.ty K.bool) → List (K.ty K.bool) → List (K.ty K.bool) → Prop} (Q : Ex → St → Prop) (hr0 : ∀ x10 w0, R0 x10 w0 → Of (Q (Ex.ret) (X43_0_0 x10 w0))) (hr1 : ∀ w2 w3 w4 w5, R1 w2 w3 w4 w5 → Of (Q (Ex.exit (nat_lit 0)) (X43_0_1 w2 w3 w4 w5))) : ∀ (n : Nat) (l1 : List (K.ty K.bool)) (x3 : Int) (l25 : List (K.ty k74)) (x26 : Int) (x27 : Int) (lh0_0 : List (K.ty K.bool)) (lh0_1 : List (K.ty K.bool)) (lh0_2 : List (K.ty K.bool)) (w3 : List (K.ty ((4 : TypeId), K.bool).snd)) (w4 : List (K.ty K.bool)) (w5 : List (K.ty K.bool)) (w6 : List (K.ty K.bool)), G43_0 R0 R1 n l1 x3 l25 x26 x27 lh0_0 lh0_1 lh0_2 w3 w4 w5 w6 → Of (loopP (awp tt E43 A43 L43_0 0) ([(1 : Nat), (3 : Nat), (6 : Nat), (9 : Nat), (11 : Nat), (12 : Nat), (25 : Nat), (26 : Nat), (27 : Nat)], [(9 : Nat), (11 : Nat), (12 : Nat)], [(8 : Nat), (9 : Nat), (10 : Nat)]) n (S43_0 l1 x3 l25 x26 x27 lh0_0 lh0_1 lh0_2 w3 w4 w5 w6) Q) := by
  intro n
  induction n with
  | zero => intro l1 x3 l25 x26 x27 lh0_0 lh0_1 lh0_2 w3 w4 w5 w6 h; exact h.elim
  | succ n ih =>
    intro l1 x3 l25 x26 x27 lh0_0 lh0_1 lh0_2 w3 w4 w5 w6 h
    exact kcO (t43_0_eq n Q l1 x3 l25 x26 x27 lh0_0 lh0_1 lh0_2 w3 w4 w5 w6) (t43_0_mono (fun _ _ _ _ _ _ _ _ _ _ _ _ h => (ih _ _ _ _ _ _ _ _ _ _ _ _ h).out) (fun _ _ h => (hr0 _ _ h).out) (fun _ _ _ _ h => (hr1 _ _ _ _ h).out) l1 x3 l25 x26 x27 lh0_0 lh0_1 lh0_2 w3 w4 w5 w6 h)
def t43 (Q : List V1 → List Ob → Prop) (lp0 : K.ty k45 → K.ty (K.slice (4 : TypeId) K.bool) → K.ty k26 → K.ty (K.int IntKind.i64) → Prop) (p0 : K.ty k45) (p1 : K.ty (K.slice (4 : TypeId) K.bool)) (p2 : K.ty k26) (p3 : K.ty (K.int IntKind.i64)) : Prop :=
  small p2 ∧ ((0 : Int) ≤ (↑(List.length p0.snd.fst) : Int) ∧ (↑(List.length p0.snd.fst) : Int) ≤ (↑(List.length p0.snd.fst) : Int) ∧ (↑(List.length p0.snd.fst) : Int) ≤ (17592186044416 : Int)) ∧ room tt (4 : TypeId) (Int.toNat (↑(List.length p0.snd.fst) : Int)) ∧ lp0 p0 p1 p2 p3
theorem t43_mono {Q : List V1 → List Ob → Prop} {Q' : List V1 → List Ob → Prop} {lp0 : K.ty k45 → K.ty (K.slice (4 : TypeId) K.bool) → K.ty k26 → K.ty (K.int IntKind.i64) → Prop} {lp0' : K.ty k45 → K.ty (K.slice (4 : TypeId) K.bool) → K.ty k26 → K.ty (K.int IntKind.i64) → Prop} (hq : ∀ r h, Q r h → Q' r h) (hlp0 : ∀ p0 p1 p2 p3, lp0 p0 p1 p2 p3 → lp0' p0 p1 p2 p3) (p0 : K.ty k45) (p1 : K.ty (K.slice (4 : TypeId) K.bool)) (p2 : K.ty k26) (p3 : K.ty (K.int IntKind.i64)) :
    t43 Q lp0 p0 p1 p2 p3 → t43 Q' lp0' p0 p1 p2 p3 :=
  andM (id) (andM (andM (id) (andM (id) (id))) (andM (id) (hlp0 _ _ _ _)))
theorem t43_eq (Q : List V1 → List Ob → Prop) (p0 : K.ty k45) (p1 : K.ty (K.slice (4 : TypeId) K.bool)) (p2 : K.ty k26) (p3 : K.ty (K.int IntKind.i64)) :
    t43 Q (fun p0 p1 p2 p3 => ∃ m, loopP (awp tt E43 A43 L43_0 0) ([(1 : Nat), (3 : Nat), (6 : Nat), (9 : Nat), (11 : Nat), (12 : Nat), (25 : Nat), (26 : Nat), (27 : Nat)], [(9 : Nat), (11 : Nat), (12 : Nat)], [(8 : Nat), (9 : Nat), (10 : Nat)]) m (S43_0 (p1) (p3) (p0.snd.fst) ((↑(List.length p0.snd.fst) : Int)) ((0 : Int)) (p2.fst) (p2.snd.fst) (p2.snd.snd) (List.replicate (Int.toNat (↑(List.length p0.snd.fst) : Int)) (K.dflt K.bool)) (p2.fst) (p2.snd.fst) (p2.snd.snd)) (blkC (0 : Nat) (seqC (awp tt E43 A43 (Code.b (Code.b (Code.b (Code.b (Func.code Try.f43))))) (0 : Nat)) (topC tt Try.f43 0 Q)))) p0 p1 p2 p3 = (afun tt E43 A43 Try.f43 (I43 p0 p1 p2 p3) [] Q) := by kernel_rfl
def t43c0x1 (Q : List V1 → List Ob → Prop) (p0 : K.ty k45) (p1 : K.ty (K.slice (4 : TypeId) K.bool)) (p2 : K.ty k26) (p3 : K.ty (K.int IntKind.i64)) (w2e4 : List (K.ty K.bool)) (w3e4 : List (K.ty K.bool)) (w4e4 : List (K.ty K.bool)) (w5e4 : List (K.ty K.bool)) : Prop :=
  Q [V1.one (Lf.own (0 : Nat)), V1.agg [Lf.own ((0 : Nat) + (1 : Nat)), Lf.own ((0 : Nat) + (1 : Nat) + (1 : Nat)), Lf.own ((0 : Nat) + (1 : Nat) + (1 : Nat) + (1 : Nat))], V1.one (Lf.int IntKind.i64 (0 : Int))] [Ob.row (4 : TypeId) K.bool w2e4, Ob.row (4 : TypeId) K.bool w3e4, Ob.row (4 : TypeId) K.bool w4e4, Ob.row (4 : TypeId) K.bool w5e4]
theorem t43c0x1_mono {Q : List V1 → List Ob → Prop} {Q' : List V1 → List Ob → Prop} (hq : ∀ r h, Q r h → Q' r h) (p0 : K.ty k45) (p1 : K.ty (K.slice (4 : TypeId) K.bool)) (p2 : K.ty k26) (p3 : K.ty (K.int IntKind.i64)) (w2e4 : List (K.ty K.bool)) (w3e4 : List (K.ty K.bool)) (w4e4 : List (K.ty K.bool)) (w5e4 : List (K.ty K.bool)) :
    t43c0x1 Q p0 p1 p2 p3 w2e4 w3e4 w4e4 w5e4 → t43c0x1 Q' p0 p1 p2 p3 w2e4 w3e4 w4e4 w5e4 :=
  hq _ _
theorem t43c0x1_eq (Q : List V1 → List Ob → Prop) (p0 : K.ty k45) (p1 : K.ty (K.slice (4 : TypeId) K.bool)) (p2 : K.ty k26) (p3 : K.ty (K.int IntKind.i64)) (w2e4 : List (K.ty K.bool)) (w3e4 : List (K.ty K.bool)) (w4e4 : List (K.ty K.bool)) (w5e4 : List (K.ty K.bool)) :
    t43c0x1 Q p0 p1 p2 p3 w2e4 w3e4 w4e4 w5e4 = ((blkC (0 : Nat) (seqC (awp tt E43 A43 (Code.b (Code.b (Code.b (Code.b (Func.code Try.f43))))) (0 : Nat)) (topC tt Try.f43 0 Q))) (Ex.exit (nat_lit 0)) (X43_0_1 w2e4 w3e4 w4e4 w5e4)) := by kernel_rfl
def t43c0x0 (Q : List V1 → List Ob → Prop) (p0 : K.ty k45) (p1 : K.ty (K.slice (4 : TypeId) K.bool)) (p2 : K.ty k26) (p3 : K.ty (K.int IntKind.i64)) (x10e4 : Int) (w0e4 : List (K.ty K.bool)) : Prop :=
  Q [V1.one (Lf.own (0 : Nat)), V1.agg [Lf.nils, Lf.nils, Lf.nils], V1.one (Lf.int IntKind.i64 x10e4)] [Ob.row (4 : TypeId) K.bool w0e4]
theorem t43c0x0_mono {Q : List V1 → List Ob → Prop} {Q' : List V1 → List Ob → Prop} (hq : ∀ r h, Q r h → Q' r h) (p0 : K.ty k45) (p1 : K.ty (K.slice (4 : TypeId) K.bool)) (p2 : K.ty k26) (p3 : K.ty (K.int IntKind.i64)) (x10e4 : Int) (w0e4 : List (K.ty K.bool)) :
    t43c0x0 Q p0 p1 p2 p3 x10e4 w0e4 → t43c0x0 Q' p0 p1 p2 p3 x10e4 w0e4 :=
  hq _ _
theorem t43c0x0_eq (Q : List V1 → List Ob → Prop) (p0 : K.ty k45) (p1 : K.ty (K.slice (4 : TypeId) K.bool)) (p2 : K.ty k26) (p3 : K.ty (K.int IntKind.i64)) (x10e4 : Int) (w0e4 : List (K.ty K.bool)) :
    t43c0x0 Q p0 p1 p2 p3 x10e4 w0e4 = ((blkC (0 : Nat) (seqC (awp tt E43 A43 (Code.b (Code.b (Code.b (Code.b (Func.code Try.f43))))) (0 : Nat)) (topC tt Try.f43 0 Q))) (Ex.ret) (X43_0_0 x10e4 w0e4)) := by kernel_rfl
def H43 (Q : List V1 → List Ob → Prop) (p0 : K.ty k45) (p1 : K.ty (K.slice (4 : TypeId) K.bool)) (p2 : K.ty k26) (p3 : K.ty (K.int IntKind.i64)) : Prop := t43 Q (fun p0 p1 p2 p3 => ∃ m, G43_0 (fun x10e4 w0e4 => t43c0x0 Q p0 p1 p2 p3 x10e4 w0e4) (fun w2e4 w3e4 w4e4 w5e4 => t43c0x1 Q p0 p1 p2 p3 w2e4 w3e4 w4e4 w5e4) m (p1) (p3) (p0.snd.fst) ((↑(List.length p0.snd.fst) : Int)) ((0 : Int)) (p2.fst) (p2.snd.fst) (p2.snd.snd) (List.replicate (Int.toNat (↑(List.length p0.snd.fst) : Int)) (K.dflt K.bool)) (p2.fst) (p2.snd.fst) (p2.snd.snd)) p0 p1 p2 p3
theorem ok43 (Q : List V1 → List Ob → Prop) (p0 : K.ty k45) (p1 : K.ty (K.slice (4 : TypeId) K.bool)) (p2 : K.ty k26) (p3 : K.ty (K.int IntKind.i64)) (h : H43 Q p0 p1 p2 p3) : Of (afun tt E43 A43 Try.f43 (I43 p0 p1 p2 p3) [] Q) :=
  kcO (t43_eq Q p0 p1 p2 p3) (t43_mono (fun _ _ h => h) (fun p0 p1 p2 p3 ⟨m, h⟩ => ⟨m, (T43_0 _ (fun x10e4 w0e4 h => kcO (t43c0x0_eq _ _ _ _ _ _ _) (t43c0x0_mono (fun _ _ h => h) _ _ _ _ _ _ h)) (fun w2e4 w3e4 w4e4 w5e4 h => kcO (t43c0x1_eq _ _ _ _ _ _ _ _ _) (t43c0x1_mono (fun _ _ h => h) _ _ _ _ _ _ _ _ h)) m _ _ _ _ _ _ _ _ _ _ _ _ h).out⟩) p0 p1 p2 p3 h)
theorem env43 : EnvOk Try.prog E43 := .cons spec25 (by kernel_rfl) <| .cons spec51 (by kernel_rfl) <| .cons spec58 (by kernel_rfl) <| .cons spec59 (by kernel_rfl) <| .nil
theorem set_pre (on : List Bool) (k : Nat) (v : Bool) : List.set (on ++ List.replicate (k + 1) false) on.length v = (on ++ [v]) ++ List.replicate k false := by
  rw [List.set_append_right _ _ (Nat.le_refl _), Nat.sub_self, List.replicate_succ, List.set_cons_zero, List.append_assoc]; rfl
theorem loop43 (inp : List Bool) (st : Sta) (cs : List Con) (R0 : Int → List Bool → Prop) (R1 : List Bool → List Bool → List Bool → List Bool → Prop) (hl : cs.length ≤ 1000000) :
    ∀ n k (i : Nat) (slot : Int) (e on : List Bool), k < n → i + k = cs.length → on.length = i → e.length ≤ 1000000000000 →
      ((conGo inp st (cs.drop i) slot e on).2.2 ≠ 0 → R0 (conGo inp st (cs.drop i) slot e on).2.2 []) →
      ((conGo inp st (cs.drop i) slot e on).2.2 = 0 → R1 (conGo inp st (cs.drop i) slot e on).1 st.1 st.2.1 (conGo inp st (cs.drop i) slot e on).2.1) →
      G43_0 R0 R1 n inp slot cs cs.length i st.1 st.2.1 st.2.2 (on ++ List.replicate k false) st.1 st.2.1 e := by
  intro n
  induction n with
  | zero => intro k i slot e on h; omega
  | succ n ih =>
    intro k i slot e on hk hi hon he h0 h1
    refine brP_intro (fun d => ?_) (fun d => ?_)
    · have d : i < cs.length := by simpa using d
      cases k with
      | zero => omega
      | succ k =>
        rw [getE_cons k74 cs i d] at h0 h1
        simp only [conGo] at h0 h1
        have bi : bound (i : Int) (on ++ List.replicate (k + 1) false).length := ⟨by omega, by rw [List.length_append, List.length_replicate]; omega⟩
        have hset : ∀ v, List.set (on ++ List.replicate (k + 1) false) (Int.toNat i) v = (on ++ [v]) ++ List.replicate k false := fun v => by
          rw [Int.toNat_natCast, ← hon]; exact set_pre on k v
        refine ⟨⟨by omega, by omega⟩, ?_⟩
        refine brP_intro (fun a => ?_) (fun a => ?_)
        · simp only [a, cond_true] at h0; exact h0 (by decide)
        refine brP_intro (fun b => ?_) (fun b => ?_)
        · simp only [a, b, cond_true, cond_false] at h0; exact h0 (by decide)
        simp only [a, b, cond_false] at h0 h1
        have hkind : bound (getE k74 cs i).1 4 := by
          have a' : ¬ (getE k74 cs i).1 < (0 : Int) := by simpa using a
          have b' : ¬ (getE k74 cs i).1 ≥ (4 : Int) := by simpa using b
          exact ⟨Int.not_lt.1 a', Int.not_le.1 b'⟩
        refine brP_intro (fun c => ?_) (fun c => ?_)
        · have c : ((readS inp st (getE k74 cs i).2.1).2 != 0) = true := c
          simp only [c, cond_true] at h0; exact h0 (by simpa using c)
        have c : ((readS inp st (getE k74 cs i).2.1).2 != 0) = false := c
        simp only [c, cond_false] at h0 h1
        refine brP_intro (fun f => ?_) (fun f => ?_)
        · simp only [f, cond_true] at h0 h1
          refine brP_intro (fun g => ?_) (fun g => ?_)
          · simp only [g, cond_true] at h0; exact h0 (by decide)
          refine brP_intro (fun j => ?_) (fun j => ?_)
          · have j : decide (slot ≥ (e.length : Int)) = true := j
            simp only [g, j, cond_true, cond_false] at h0; exact h0 (by decide)
          have j : decide (slot ≥ (e.length : Int)) = false := j
          simp only [g, j, cond_false] at h0 h1
          have g' : ¬ slot < 0 := by simpa using g
          have j' : ¬ slot ≥ (e.length : Int) := by simpa using j
          have bs : bound slot e.length := ⟨by omega, by omega⟩
          refine ⟨bs, bs, hkind, bi, ?_⟩
          rw [hset, wrap_in (by omega) (by omega), wrap_in (by omega) (by omega)]
          exact ih k (i + 1) (slot + 1) _ _ (by omega) (by omega) (by rw [List.length_append, hon]; rfl) (by rw [List.length_set]; exact he) h0 h1
        · simp only [f, cond_false] at h0 h1
          refine ⟨hkind, bi, ?_⟩
          rw [hset, wrap_in (by omega) (by omega)]
          exact ih k (i + 1) slot _ _ (by omega) (by omega) (by rw [List.length_append, hon]; rfl) he h0 h1
    · have d : ¬ i < cs.length := by simpa using d
      obtain rfl : k = 0 := by omega
      rw [List.drop_of_length_le (by omega)] at h1
      have := h1 rfl
      simpa [conGo] using this
theorem spec43 : SpecOk Try.prog 43 sp43 := S4.okS tt_ok mixed [kbs, k26, ki] env43 Try.func43 fun (r : Rung) (inp : List Bool) (st : Sta) (slot : Int) Q h => ok43 _ r inp st slot <| by
  obtain ⟨⟨hs, hl⟩, h⟩ := h
  have hl' : (r.snd.fst).length ≤ 1000000 := hl
  unfold contactsR at h
  have hlen := loop43 inp st r.contacts (fun x w => t43c0x0 (SQ [kbs, k26, ki] Q) r inp st slot x w) (fun a b c d => t43c0x1 (SQ [kbs, k26, ki] Q) r inp st slot a b c d) hl (r.contacts.length + 1) r.contacts.length 0 slot st.2.2 []
    (by omega) (by omega) rfl hs.2.2 (fun h0 => ?_) (fun h0 => ?_)
  · exact ⟨hs, ⟨by omega, by omega, by omega⟩, room4 (by omega), _, hlen⟩
  · rw [List.drop_zero] at h0 ⊢
    have e : ((conGo inp st r.contacts slot st.2.2 []).2.2 != 0) = true := by simpa using h0
    simp only [e, cond_true] at h
    exact h
  · rw [List.drop_zero] at h0 ⊢
    have e : ((conGo inp st r.contacts slot st.2.2 []).2.2 != 0) = false := by simpa using h0
    simp only [e, cond_false] at h
    exact h
end Go.AM
