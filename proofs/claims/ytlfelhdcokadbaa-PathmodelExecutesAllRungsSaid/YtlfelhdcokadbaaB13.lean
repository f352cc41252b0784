/- Functions of the program: whether a rung conducts. Conditions: none. -/
import Derived.Test.YtlfelhdcokadbaaD1
set_option linter.all false
namespace Go.AM
open Go.Proofs
-- f44 "busbar/rungeval.Conducts" ['46', '25'] -> ['4', '32']
def A44 : Ann := [(0, [1, 2, 6, 7], [6], [4, 5]), (2, [1, 2, 6, 7, 8, 29, 30, 31], [1, 2, 6, 7], [4, 5])]
def E44 : Env := []
def I44 (p0 : (k45 : K).ty) (p1 : ((.slice 4 .bool) : K).ty) : List V1 := [nfK k45 p0, nfK (.slice 4 .bool) p1]
noncomputable def L44_0 : Code := Code.a (Code.a (Code.a (Code.b (Code.b (Code.b (Code.b (Func.code Try.f44)))))))
def S44_0 (l1 : List (K.ty K.bool)) (sh0_0 : ByteArray) (lh0_1 : List (K.ty k74)) (lh0_2 : List (K.ty k76)) (sh0_3 : ByteArray) (m1 : List (ByteArray × Bool)) (w2 : List (K.ty ((9 : TypeId), K.str).snd)) : St := sp (64 : Nat) [((1 : Nat), V.v (V1.one (Lf.sl (4 : TypeId) K.bool l1))), ((2 : Nat), V.v (V1.one (Lf.ptr (nat_lit 0) (nat_lit 0)))), ((6 : Nat), V.v (V1.one (Lf.mp (nat_lit 1)))), ((7 : Nat), V.v (V1.one (Lf.own (nat_lit 2))))] [Ob.box (46 : Nat) [Lf.str sh0_0, Lf.sl (75 : TypeId) k74 lh0_1, Lf.sl (77 : TypeId) k76 lh0_2, Lf.str sh0_3], Ob.map m1, Ob.row (9 : TypeId) K.str w2]
def X44_0_0 (m0 : List (ByteArray × Bool)) : St := sp (64 : Nat) [((6 : Nat), V.v (V1.one (Lf.mp (nat_lit 0))))] [Ob.map m0]
noncomputable def L44_2 : Code := Code.a (Code.a (Code.b (Code.b (Code.b (Code.a (Code.b (Code.a (Code.a (Code.a (Code.b (Code.b (Code.b (Code.b (Func.code Try.f44))))))))))))))
def S44_2 (l1 : List (K.ty K.bool)) (s8 : ByteArray) (l29 : List (K.ty k74)) (x30 : Int) (x31 : Int) (sh0_0 : ByteArray) (lh0_1 : List (K.ty k74)) (lh0_2 : List (K.ty k76)) (sh0_3 : ByteArray) (m1 : List (ByteArray × Bool)) (w2 : List (K.ty K.str)) : St := sp (64 : Nat) [((1 : Nat), V.v (V1.one (Lf.sl (4 : TypeId) K.bool l1))), ((2 : Nat), V.v (V1.one (Lf.ptr (nat_lit 0) (nat_lit 0)))), ((6 : Nat), V.v (V1.one (Lf.mp (nat_lit 1)))), ((7 : Nat), V.v (V1.one (Lf.own (nat_lit 2)))), ((8 : Nat), V.v (V1.one (Lf.str s8))), ((29 : Nat), V.v (V1.one (Lf.sl (75 : TypeId) k74 l29))), ((30 : Nat), V.v (V1.one (Lf.int IntKind.i64 x30))), ((31 : Nat), V.v (V1.one (Lf.int IntKind.i64 x31)))] [Ob.box (46 : Nat) [Lf.str sh0_0, Lf.sl (75 : TypeId) k74 lh0_1, Lf.sl (77 : TypeId) k76 lh0_2, Lf.str sh0_3], Ob.map m1, Ob.row (9 : TypeId) K.str w2]
def X44_2_0 (l1 : List (K.ty K.bool)) (sh0_0 : ByteArray) (lh0_1 : List (K.ty k74)) (lh0_2 : List (K.ty k76)) (sh0_3 : ByteArray) (m1 : List (ByteArray × Bool)) (w2 : List (K.ty K.str)) : St := sp (64 : Nat) [((1 : Nat), V.v (V1.one (Lf.sl (4 : TypeId) K.bool l1))), ((2 : Nat), V.v (V1.one (Lf.ptr (nat_lit 0) (nat_lit 0)))), ((6 : Nat), V.v (V1.one (Lf.mp (nat_lit 1)))), ((7 : Nat), V.v (V1.one (Lf.own (nat_lit 2))))] [Ob.box (46 : Nat) [Lf.str sh0_0, Lf.sl (75 : TypeId) k74 lh0_1, Lf.sl (77 : TypeId) k76 lh0_2, Lf.str sh0_3], Ob.map m1, Ob.row (9 : TypeId) K.str w2]
def t44_2 (again : List (K.ty K.bool) → ByteArray → List (K.ty k74) → Int → Int → ByteArray → List (K.ty k74) → List (K.ty k76) → ByteArray → List (ByteArray × Bool) → List (K.ty K.str) → Prop) (R0 : List (K.ty K.bool) → ByteArray → List (K.ty k74) → List (K.ty k76) → ByteArray → List (ByteArray × Bool) → List (K.ty K.str) → Prop) (l1 : List (K.ty K.bool)) (s8 : ByteArray) (l29 : List (K.ty k74)) (x30 : Int) (x31 : Int) (sh0_0 : ByteArray) (lh0_1 : List (K.ty k74)) (lh0_2 : List (K.ty k76)) (sh0_3 : ByteArray) (m1 : List (ByteArray × Bool)) (w2 : List (K.ty K.str)) : Prop :=
  brP (decide (x31 < x30)) (bound x31 (List.length l29) ∧ bound x31 (List.length l1) ∧ brP (getE K.bool l1 x31) (brP (ByteArray.toList (getE k74 l29 x31).snd.snd.fst == ByteArray.toList s8) (brP (!mget m1 (getE k74 l29 x31).snd.snd.snd) (room tt (9 : TypeId) (List.length w2 + List.length (List.set (List.replicate (1 : Nat) (K.dflt K.str)) (0 : Nat) (getE k74 l29 x31).snd.snd.snd)) ∧ again l1 s8 l29 x30 (IntKind.wrap IntKind.i64 (x31 + (1 : Int))) sh0_0 lh0_1 lh0_2 sh0_3 (mset m1 (getE k74 l29 x31).snd.snd.snd true) (w2 ++ List.set (List.replicate (1 : Nat) (K.dflt K.str)) (0 : Nat) (getE k74 l29 x31).snd.snd.snd)) (again l1 s8 l29 x30 (IntKind.wrap IntKind.i64 (x31 + (1 : Int))) sh0_0 lh0_1 lh0_2 sh0_3 m1 w2)) (again l1 s8 l29 x30 (IntKind.wrap IntKind.i64 (x31 + (1 : Int))) sh0_0 lh0_1 lh0_2 sh0_3 m1 w2)) (again l1 s8 l29 x30 (IntKind.wrap IntKind.i64 (x31 + (1 : Int))) sh0_0 lh0_1 lh0_2 sh0_3 m1 w2)) (R0 l1 sh0_0 lh0_1 lh0_2 sh0_3 m1 w2)
theorem t44_2_mono {again : List (K.ty K.bool) → ByteArray → List (K.ty k74) → Int → Int → ByteArray → List (K.ty k74) → List (K.ty k76) → ByteArray → List (ByteArray × Bool) → List (K.ty K.str) → Prop} {R0 : List (K.ty K.bool) → ByteArray → List (K.ty k74) → List (K.ty k76) → ByteArray → List (ByteArray × Bool) → List (K.ty K.str) → Prop} {again' : List (K.ty K.bool) → ByteArray → List (K.ty k74) → Int → Int → ByteArray → List (K.ty k74) → List (K.ty k76) → ByteArray → List (ByteArray × Bool) → List (K.ty K.str) → Prop} {R0' : List (K.ty K.bool) → ByteArray → List (K.ty k74) → List (K.ty k76) → ByteArray → List (ByteArray × Bool) → List (K.ty K.str) → Prop} (ha : ∀ l1 s8 l29 x30 x31 sh0_0 lh0_1 lh0_2 sh0_3 m1 w2, again l1 s8 l29 x30 x31 sh0_0 lh0_1 lh0_2 sh0_3 m1 w2 → again' l1 s8 l29 x30 x31 sh0_0 lh0_1 lh0_2 sh0_3 m1 w2) (hr0 : ∀ l1 sh0_0 lh0_1 lh0_2 sh0_3 m1 w2, R0 l1 sh0_0 lh0_1 lh0_2 sh0_3 m1 w2 → R0' l1 sh0_0 lh0_1 lh0_2 sh0_3 m1 w2) (l1 : List (K.ty K.bool)) (s8 : ByteArray) (l29 : List (K.ty k74)) (x30 : Int) (x31 : Int) (sh0_0 : ByteArray) (lh0_1 : List (K.ty k74)) (lh0_2 : List (K.ty k76)) (sh0_3 : ByteArray) (m1 : List (ByteArray × Bool)) (w2 : List (K.ty K.str)) :
    t44_2 again R0 l1 s8 l29 x30 x31 sh0_0 lh0_1 lh0_2 sh0_3 m1 w2 → t44_2 again' R0' l1 s8 l29 x30 x31 sh0_0 lh0_1 lh0_2 sh0_3 m1 w2 :=
  brM (andM (id) (andM (id) (brM (brM (brM (andM (id) (ha _ _ _ _ _ _ _ _ _ _ _)) (ha _ _ _ _ _ _ _ _ _ _ _)) (ha _ _ _ _ _ _ _ _ _ _ _)) (ha _ _ _ _ _ _ _ _ _ _ _)))) (hr0 _ _ _ _ _ _ _)
theorem t44_2_eq (n : Nat) (Q : Ex → St → Prop) (l1 : List (K.ty K.bool)) (s8 : ByteArray) (l29 : List (K.ty k74)) (x30 : Int) (x31 : Int) (sh0_0 : ByteArray) (lh0_1 : List (K.ty k74)) (lh0_2 : List (K.ty k76)) (sh0_3 : ByteArray) (m1 : List (ByteArray × Bool)) (w2 : List (K.ty K.str)) :
    t44_2 (fun l1 s8 l29 x30 x31 sh0_0 lh0_1 lh0_2 sh0_3 m1 w2 => loopP (awp tt E44 A44 L44_2 2) ([(1 : Nat), (2 : Nat), (6 : Nat), (7 : Nat), (8 : Nat), (29 : Nat), (30 : Nat), (31 : Nat)], [(1 : Nat), (2 : Nat), (6 : Nat), (7 : Nat)], [(4 : Nat), (5 : Nat)]) n (S44_2 l1 s8 l29 x30 x31 sh0_0 lh0_1 lh0_2 sh0_3 m1 w2) Q) (fun l1 sh0_0 lh0_1 lh0_2 sh0_3 m1 w2 => Q (Ex.exit (nat_lit 2)) (X44_2_0 l1 sh0_0 lh0_1 lh0_2 sh0_3 m1 w2)) l1 s8 l29 x30 x31 sh0_0 lh0_1 lh0_2 sh0_3 m1 w2 = (loopP (awp tt E44 A44 L44_2 2) ([(1 : Nat), (2 : Nat), (6 : Nat), (7 : Nat), (8 : Nat), (29 : Nat), (30 : Nat), (31 : Nat)], [(1 : Nat), (2 : Nat), (6 : Nat), (7 : Nat)], [(4 : Nat), (5 : Nat)]) (n + 1) (S44_2 l1 s8 l29 x30 x31 sh0_0 lh0_1 lh0_2 sh0_3 m1 w2) Q) := by kernel_rfl
def G44_2 (R0 : List (K.ty K.bool) → ByteArray → List (K.ty k74) → List (K.ty k76) → ByteArray → List (ByteArray × Bool) → List (K.ty K.str) → Prop) : Nat → List (K.ty K.bool) → ByteArray → List (K.ty k74) → Int → Int → ByteArray → List (K.ty k74) → List (K.ty k76) → ByteArray → List (ByteArray × Bool) → List (K.ty K.str) → Prop
  | 0, _, _, _, _, _, _, _, _, _, _, _ => False
  | n + 1, l1, s8, l29, x30, x31, sh0_0, lh0_1, lh0_2, sh0_3, m1, w2 => t44_2 (G44_2 R0 n) R0 l1 s8 l29 x30 x31 sh0_0 lh0_1 lh0_2 sh0_3 m1 w2
theorem T44_2 {R0 : List (K.ty K.bool) → ByteArray → List (K.ty k74) → List (K.ty k76) → ByteArray → List (ByteArray × Bool) → List (K.ty K.str) → Prop} (Q : Ex → St → Prop) (hr0 : ∀ l1 sh0_0 lh0_1 lh0_2 sh0_3 m1 w2, R0 l1 sh0_0 lh0_1 lh0_2 sh0_3 m1 w2 → Of (Q (Ex.exit (nat_lit 2)) (X44_2_0 l1 sh0_0 lh0_1 lh0_2 sh0_3 m1 w2))) : ∀ (n : Nat) (l1 : List (K.ty K.bool)) (s8 : ByteArray) (l29 : List (K.ty k74)) (x30 : Int) (x31 : Int) (sh0_0 : ByteArray) (lh0_1 : List (K.ty k74)) (lh0_2 : List (K.ty k76)) (sh0_3 : ByteArray) (m1 : List (ByteArray × Bool)) (w2 : List (K.ty K.str)), G44_2 R0 n l1 s8 l29 x30 x31 sh0_0 lh0_1 lh0_2 sh0_3 m1 w2 → Of (loopP (awp tt E44 A44 L44_2 2) ([(1 : Nat), (2 : Nat), (6 : Nat), (7 : Nat), (8 : Nat), (29 : Nat), (30 : Nat), (31 : Nat)], [(1 : Nat), (2 : Nat), (6 : Nat), (7 : Nat)], [(4 : Nat), (5 : Nat)]) n (S44_2 l1 s8 l29 x30 x31 sh0_0 lh0_1 lh0_2 sh0_3 m1 w2) Q) := by
  intro n
  induction n with
  | zero => intro l1 s8 l29 x30 x31 sh0_0 lh0_1 lh0_2 sh0_3 m1 w2 h; exact h.elim
  | succ n ih =>
    intro l1 s8 l29 x30 x31 sh0_0 lh0_1 lh0_2 sh0_3 m1 w2 h
    exact kcO (t44_2_eq n Q l1 s8 l29 x30 x31 sh0_0 lh0_1 lh0_2 sh0_3 m1 w2) (t44_2_mono (fun _ _ _ _ _ _ _ _ _ _ _ h => (ih _ _ _ _ _ _ _ _ _ _ _ h).out) (fun _ _ _ _ _ _ _ h => (hr0 _ _ _ _ _ _ _ h).out) l1 s8 l29 x30 x31 sh0_0 lh0_1 lh0_2 sh0_3 m1 w2 h)
def t44_0 (again : List (K.ty K.bool) → ByteArray → List (K.ty k74) → List (K.ty k76) → ByteArray → List (ByteArray × Bool) → List (K.ty ((9 : TypeId), K.str).snd) → Prop) (R0 : List (ByteArray × Bool) → Prop) (lp0 : List (K.ty K.bool) → ByteArray → List (K.ty k74) → List (K.ty k76) → ByteArray → List (ByteArray × Bool) → List (K.ty ((9 : TypeId), K.str).snd) → Prop) (l1 : List (K.ty K.bool)) (sh0_0 : ByteArray) (lh0_1 : List (K.ty k74)) (lh0_2 : List (K.ty k76)) (sh0_3 : ByteArray) (m1 : List (ByteArray × Bool)) (w2 : List (K.ty ((9 : TypeId), K.str).snd)) : Prop :=
  brP (decide ((↑(List.length w2) : Int) > (0 : Int))) (bound (0 : Int) (List.length w2) ∧ ((0 : Int) ≤ (1 : Int) ∧ (1 : Int) ≤ (↑(List.length w2) : Int) ∧ (0 : Nat) < List.length w2) ∧ lp0 l1 sh0_0 lh0_1 lh0_2 sh0_3 m1 w2) (R0 m1)
theorem t44_0_mono {again : List (K.ty K.bool) → ByteArray → List (K.ty k74) → List (K.ty k76) → ByteArray → List (ByteArray × Bool) → List (K.ty ((9 : TypeId), K.str).snd) → Prop} {R0 : List (ByteArray × Bool) → Prop} {again' : List (K.ty K.bool) → ByteArray → List (K.ty k74) → List (K.ty k76) → ByteArray → List (ByteArray × Bool) → List (K.ty ((9 : TypeId), K.str).snd) → Prop} {R0' : List (ByteArray × Bool) → Prop} {lp0 : List (K.ty K.bool) → ByteArray → List (K.ty k74) → List (K.ty k76) → ByteArray → List (ByteArray × Bool) → List (K.ty ((9 : TypeId), K.str).snd) → Prop} {lp0' : List (K.ty K.bool) → ByteArray → List (K.ty k74) → List (K.ty k76) → ByteArray → List (ByteArray × Bool) → List (K.ty ((9 : TypeId), K.str).snd) → Prop} (ha : ∀ l1 sh0_0 lh0_1 lh0_2 sh0_3 m1 w2, again l1 sh0_0 lh0_1 lh0_2 sh0_3 m1 w2 → again' l1 sh0_0 lh0_1 lh0_2 sh0_3 m1 w2) (hr0 : ∀ m0, R0 m0 → R0' m0) (hlp0 : ∀ l1 sh0_0 lh0_1 lh0_2 sh0_3 m1 w2, lp0 l1 sh0_0 lh0_1 lh0_2 sh0_3 m1 w2 → lp0' l1 sh0_0 lh0_1 lh0_2 sh0_3 m1 w2) (l1 : List (K.ty K.bool)) (sh0_0 : ByteArray) (lh0_1 : List (K.ty k74)) (lh0_2 : List (K.ty k76)) (sh0_3 : ByteArray) (m1 : List (ByteArray × Bool)) (w2 : List (K.ty ((9 : TypeId), K.str).snd)) :
    t44_0 again R0 lp0 l1 sh0_0 lh0_1 lh0_2 sh0_3 m1 w2 → t44_0 again' R0' lp0' l1 sh0_0 lh0_1 lh0_2 sh0_3 m1 w2 :=
  brM (andM (id) (andM (andM (id) (andM (id) (id))) (hlp0 _ _ _ _ _ _ _))) (hr0 _)
theorem t44_0_eq (n : Nat) (Q : Ex → St → Prop) (l1 : List (K.ty K.bool)) (sh0_0 : ByteArray) (lh0_1 : List (K.ty k74)) (lh0_2 : List (K.ty k76)) (sh0_3 : ByteArray) (m1 : List (ByteArray × Bool)) (w2 : List (K.ty ((9 : TypeId), K.str).snd)) :
    t44_0 (fun l1 sh0_0 lh0_1 lh0_2 sh0_3 m1 w2 => loopP (awp tt E44 A44 L44_0 0) ([(1 : Nat), (2 : Nat), (6 : Nat), (7 : Nat)], [(6 : Nat)], [(4 : Nat), (5 : Nat)]) n (S44_0 l1 sh0_0 lh0_1 lh0_2 sh0_3 m1 w2) Q) (fun m0 => Q (Ex.exit (nat_lit 0)) (X44_0_0 m0)) (fun l1 sh0_0 lh0_1 lh0_2 sh0_3 m1 w2 => ∃ m, loopP (awp tt E44 A44 L44_2 2) ([(1 : Nat), (2 : Nat), (6 : Nat), (7 : Nat), (8 : Nat), (29 : Nat), (30 : Nat), (31 : Nat)], [(1 : Nat), (2 : Nat), (6 : Nat), (7 : Nat)], [(4 : Nat), (5 : Nat)]) m (S44_2 (l1) (getE K.str w2 (0 : Int)) (lh0_1) ((↑(List.length lh0_1) : Int)) ((0 : Int)) (sh0_0) (lh0_1) (lh0_2) (sh0_3) (m1) (List.drop (Int.toNat (1 : Int)) w2)) (blkC (2 : Nat) (blkC (1 : Nat) (loopC (awp tt E44 A44 (Code.a (Code.a (Code.a (Code.b (Code.b (Code.b (Code.b (Func.code Try.f44)))))))) (0 : Nat)) ([(1 : Nat), (2 : Nat), (6 : Nat), (7 : Nat)], [(6 : Nat)], [(4 : Nat), (5 : Nat)]) n Q)))) l1 sh0_0 lh0_1 lh0_2 sh0_3 m1 w2 = (loopP (awp tt E44 A44 L44_0 0) ([(1 : Nat), (2 : Nat), (6 : Nat), (7 : Nat)], [(6 : Nat)], [(4 : Nat), (5 : Nat)]) (n + 1) (S44_0 l1 sh0_0 lh0_1 lh0_2 sh0_3 m1 w2) Q) := by kernel_rfl
def t44_0c0x0 (again : List (K.ty K.bool) → ByteArray → List (K.ty k74) → List (K.ty k76) → ByteArray → List (ByteArray × Bool) → List (K.ty ((9 : TypeId), K.str).snd) → Prop) (R0 : List (ByteArray × Bool) → Prop) (l1 : List (K.ty K.bool)) (sh0_0 : ByteArray) (lh0_1 : List (K.ty k74)) (lh0_2 : List (K.ty k76)) (sh0_3 : ByteArray) (m1 : List (ByteArray × Bool)) (w2 : List (K.ty ((9 : TypeId), K.str).snd)) (l1e7 : List (K.ty K.bool)) (sh0_0e7 : ByteArray) (lh0_1e7 : List (K.ty k74)) (lh0_2e7 : List (K.ty k76)) (sh0_3e7 : ByteArray) (m1e7 : List (ByteArray × Bool)) (w2e7 : List (K.ty K.str)) : Prop :=
  again l1e7 sh0_0e7 lh0_1e7 lh0_2e7 sh0_3e7 m1e7 w2e7
theorem t44_0c0x0_mono {again : List (K.ty K.bool) → ByteArray → List (K.ty k74) → List (K.ty k76) → ByteArray → List (ByteArray × Bool) → List (K.ty ((9 : TypeId), K.str).snd) → Prop} {R0 : List (ByteArray × Bool) → Prop} {again' : List (K.ty K.bool) → ByteArray → List (K.ty k74) → List (K.ty k76) → ByteArray → List (ByteArray × Bool) → List (K.ty ((9 : TypeId), K.str).snd) → Prop} {R0' : List (ByteArray × Bool) → Prop} (ha : ∀ l1 sh0_0 lh0_1 lh0_2 sh0_3 m1 w2, again l1 sh0_0 lh0_1 lh0_2 sh0_3 m1 w2 → again' l1 sh0_0 lh0_1 lh0_2 sh0_3 m1 w2) (hr0 : ∀ m0, R0 m0 → R0' m0) (l1 : List (K.ty K.bool)) (sh0_0 : ByteArray) (lh0_1 : List (K.ty k74)) (lh0_2 : List (K.ty k76)) (sh0_3 : ByteArray) (m1 : List (ByteArray × Bool)) (w2 : List (K.ty ((9 : TypeId), K.str).snd)) (l1e7 : List (K.ty K.bool)) (sh0_0e7 : ByteArray) (lh0_1e7 : List (K.ty k74)) (lh0_2e7 : List (K.ty k76)) (sh0_3e7 : ByteArray) (m1e7 : List (ByteArray × Bool)) (w2e7 : List (K.ty K.str)) :
    t44_0c0x0 again R0 l1 sh0_0 lh0_1 lh0_2 sh0_3 m1 w2 l1e7 sh0_0e7 lh0_1e7 lh0_2e7 sh0_3e7 m1e7 w2e7 → t44_0c0x0 again' R0' l1 sh0_0 lh0_1 lh0_2 sh0_3 m1 w2 l1e7 sh0_0e7 lh0_1e7 lh0_2e7 sh0_3e7 m1e7 w2e7 :=
  ha _ _ _ _ _ _ _
theorem t44_0c0x0_eq (n : Nat) (Q : Ex → St → Prop) (l1 : List (K.ty K.bool)) (sh0_0 : ByteArray) (lh0_1 : List (K.ty k74)) (lh0_2 : List (K.ty k76)) (sh0_3 : ByteArray) (m1 : List (ByteArray × Bool)) (w2 : List (K.ty ((9 : TypeId), K.str).snd)) (l1e7 : List (K.ty K.bool)) (sh0_0e7 : ByteArray) (lh0_1e7 : List (K.ty k74)) (lh0_2e7 : List (K.ty k76)) (sh0_3e7 : ByteArray) (m1e7 : List (ByteArray × Bool)) (w2e7 : List (K.ty K.str)) :
    t44_0c0x0 (fun l1 sh0_0 lh0_1 lh0_2 sh0_3 m1 w2 => loopP (awp tt E44 A44 L44_0 0) ([(1 : Nat), (2 : Nat), (6 : Nat), (7 : Nat)], [(6 : Nat)], [(4 : Nat), (5 : Nat)]) n (S44_0 l1 sh0_0 lh0_1 lh0_2 sh0_3 m1 w2) Q) (fun m0 => Q (Ex.exit (nat_lit 0)) (X44_0_0 m0)) l1 sh0_0 lh0_1 lh0_2 sh0_3 m1 w2 l1e7 sh0_0e7 lh0_1e7 lh0_2e7 sh0_3e7 m1e7 w2e7 = ((blkC (2 : Nat) (blkC (1 : Nat) (loopC (awp tt E44 A44 (Code.a (Code.a (Code.a (Code.b (Code.b (Code.b (Code.b (Func.code Try.f44)))))))) (0 : Nat)) ([(1 : Nat), (2 : Nat), (6 : Nat), (7 : Nat)], [(6 : Nat)], [(4 : Nat), (5 : Nat)]) n Q))) (Ex.exit (nat_lit 2)) (X44_2_0 l1e7 sh0_0e7 lh0_1e7 lh0_2e7 sh0_3e7 m1e7 w2e7)) := by kernel_rfl
def G44_0 (R0 : List (ByteArray × Bool) → Prop) : Nat → List (K.ty K.bool) → ByteArray → List (K.ty k74) → List (K.ty k76) → ByteArray → List (ByteArray × Bool) → List (K.ty ((9 : TypeId), K.str).snd) → Prop
  | 0, _, _, _, _, _, _, _ => False
  | n + 1, l1, sh0_0, lh0_1, lh0_2, sh0_3, m1, w2 => t44_0 (G44_0 R0 n) R0 (fun l1 sh0_0 lh0_1 lh0_2 sh0_3 m1 w2 => ∃ m, G44_2 (fun l1e7 sh0_0e7 lh0_1e7 lh0_2e7 sh0_3e7 m1e7 w2e7 => t44_0c0x0 (G44_0 R0 n) R0 l1 sh0_0 lh0_1 lh0_2 sh0_3 m1 w2 l1e7 sh0_0e7 lh0_1e7 lh0_2e7 sh0_3e7 m1e7 w2e7) m (l1) (getE K.str w2 (0 : Int)) (lh0_1) ((↑(List.length lh0_1) : Int)) ((0 : Int)) (sh0_0) (lh0_1) (lh0_2) (sh0_3) (m1) (List.drop (Int.toNat (1 : Int)) w2)) l1 sh0_0 lh0_1 lh0_2 sh0_3 m1 w2
theorem T44_0 {R0 : List (ByteArray × Bool) → Prop} (Q : Ex → St → Prop) (hr0 : ∀ m0, R0 m0 → Of (Q (Ex.exit (nat_lit 0)) (X44_0_0 m0))) : ∀ (n : Nat) (l1 : List (K.ty K.bool)) (sh0_0 : ByteArray) (lh0_1 : List (K.ty k74)) (lh0_2 : List (K.ty k76)) (sh0_3 : ByteArray) (m1 : List (ByteArray × Bool)) (w2 : List (K.ty ((9 : TypeId), K.str).snd)), G44_0 R0 n l1 sh0_0 lh0_1 lh0_2 sh0_3 m1 w2 → Of (loopP (awp tt E44 A44 L44_0 0) ([(1 : Nat), (2 : Nat), (6 : Nat), (7 : Nat)], [(6 : Nat)], [(4 : Nat), (5 : Nat)]) n (S44_0 l1 sh0_0 lh0_1 lh0_2 sh0_3 m1 w2) Q) := by
  intro n
  induction n with
  | zero => intro l1 sh0_0 lh0_1 lh0_2 sh0_3 m1 w2 h; exact h.elim
  | succ n ih =>
    intro l1 sh0_0 lh0_1 lh0_2 sh0_3 m1 w2 h
    exact kcO (t44_0_eq n Q l1 sh0_0 lh0_1 lh0_2 sh0_3 m1 w2) (t44_0_mono (fun _ _ _ _ _ _ _ h => (ih _ _ _ _ _ _ _ h).out) (fun _ h => (hr0 _ h).out) (fun l1 sh0_0 lh0_1 lh0_2 sh0_3 m1 w2 ⟨m, h⟩ => ⟨m, (T44_2 _ (fun l1e7 sh0_0e7 lh0_1e7 lh0_2e7 sh0_3e7 m1e7 w2e7 h => kcO (t44_0c0x0_eq _ _ _ _ _ _ _ _ _ _ _ _ _ _ _ _) (t44_0c0x0_mono (fun _ _ _ _ _ _ _ h => (ih _ _ _ _ _ _ _ h).out) (fun _ h => (hr0 _ h).out) _ _ _ _ _ _ _ _ _ _ _ _ _ _ h)) m _ _ _ _ _ _ _ _ _ _ _ h).out⟩) l1 sh0_0 lh0_1 lh0_2 sh0_3 m1 w2 h)
def t44 (Q : List V1 → List Ob → Prop) (lp0 : K.ty k45 → K.ty (K.slice (4 : TypeId) K.bool) → Prop) (p0 : K.ty k45) (p1 : K.ty (K.slice (4 : TypeId) K.bool)) : Prop :=
  brP ((↑(List.length p1) : Int) != (↑(List.length p0.snd.fst) : Int)) (Q [V1.one (Lf.bool false), V1.one (Lf.int IntKind.i64 (2 : Int))] []) (lp0 p0 p1)
theorem t44_mono {Q : List V1 → List Ob → Prop} {Q' : List V1 → List Ob → Prop} {lp0 : K.ty k45 → K.ty (K.slice (4 : TypeId) K.bool) → Prop} {lp0' : K.ty k45 → K.ty (K.slice (4 : TypeId) K.bool) → Prop} (hq : ∀ r h, Q r h → Q' r h) (hlp0 : ∀ p0 p1, lp0 p0 p1 → lp0' p0 p1) (p0 : K.ty k45) (p1 : K.ty (K.slice (4 : TypeId) K.bool)) :
    t44 Q lp0 p0 p1 → t44 Q' lp0' p0 p1 :=
  brM (hq _ _) (hlp0 _ _)
theorem t44_eq (Q : List V1 → List Ob → Prop) (p0 : K.ty k45) (p1 : K.ty (K.slice (4 : TypeId) K.bool)) :
    t44 Q (fun p0 p1 => ∃ m, loopP (awp tt E44 A44 L44_0 0) ([(1 : Nat), (2 : Nat), (6 : Nat), (7 : Nat)], [(6 : Nat)], [(4 : Nat), (5 : Nat)]) m (S44_0 (p1) (p0.fst) (p0.snd.fst) (p0.snd.snd.fst) (p0.snd.snd.snd) (mset [] (ByteArray.mk #[(76 : UInt8)]) true) (List.set (List.replicate (1 : Nat) (K.dflt K.str)) (0 : Nat) (ByteArray.mk #[(76 : UInt8)]))) (blkC (0 : Nat) (seqC (awp tt E44 A44 (Code.b (Code.b (Code.b (Code.b (Code.b (Func.code Try.f44)))))) (0 : Nat)) (topC tt Try.f44 0 Q)))) p0 p1 = (afun tt E44 A44 Try.f44 (I44 p0 p1) [] Q) := by kernel_rfl
def t44c0x0 (Q : List V1 → List Ob → Prop) (p0 : K.ty k45) (p1 : K.ty (K.slice (4 : TypeId) K.bool)) (m0e2 : List (ByteArray × Bool)) : Prop :=
  Q [V1.one (Lf.bool (mget m0e2 (ByteArray.mk #[(82 : UInt8)]))), V1.one (Lf.int IntKind.i64 (0 : Int))] []
theorem t44c0x0_mono {Q : List V1 → List Ob → Prop} {Q' : List V1 → List Ob → Prop} (hq : ∀ r h, Q r h → Q' r h) (p0 : K.ty k45) (p1 : K.ty (K.slice (4 : TypeId) K.bool)) (m0e2 : List (ByteArray × Bool)) :
    t44c0x0 Q p0 p1 m0e2 → t44c0x0 Q' p0 p1 m0e2 :=
  hq _ _
theorem t44c0x0_eq (Q : List V1 → List Ob → Prop) (p0 : K.ty k45) (p1 : K.ty (K.slice (4 : TypeId) K.bool)) (m0e2 : List (ByteArray × Bool)) :
    t44c0x0 Q p0 p1 m0e2 = ((blkC (0 : Nat) (seqC (awp tt E44 A44 (Code.b (Code.b (Code.b (Code.b (Code.b (Func.code Try.f44)))))) (0 : Nat)) (topC tt Try.f44 0 Q))) (Ex.exit (nat_lit 0)) (X44_0_0 m0e2)) := by kernel_rfl
def H44 (Q : List V1 → List Ob → Prop) (p0 : K.ty k45) (p1 : K.ty (K.slice (4 : TypeId) K.bool)) : Prop := t44 Q (fun p0 p1 => ∃ m, G44_0 (fun m0e2 => t44c0x0 Q p0 p1 m0e2) m (p1) (p0.fst) (p0.snd.fst) (p0.snd.snd.fst) (p0.snd.snd.snd) (mset [] (ByteArray.mk #[(76 : UInt8)]) true) (List.set (List.replicate (1 : Nat) (K.dflt K.str)) (0 : Nat) (ByteArray.mk #[(76 : UInt8)]))) p0 p1
theorem ok44 (Q : List V1 → List Ob → Prop) (p0 : K.ty k45) (p1 : K.ty (K.slice (4 : TypeId) K.bool)) (h : H44 Q p0 p1) : Of (afun tt E44 A44 Try.f44 (I44 p0 p1) [] Q) :=
  kcO (t44_eq Q p0 p1) (t44_mono (fun _ _ h => h) (fun p0 p1 ⟨m, h⟩ => ⟨m, (T44_0 _ (fun m0e2 h => kcO (t44c0x0_eq _ _ _ _) (t44c0x0_mono (fun _ _ h => h) _ _ _ h)) m _ _ _ _ _ _ _ h).out⟩) p0 p1 h)
theorem env44 : EnvOk Try.prog E44 := .nil
theorem mget_mset (l : Live) (k s : ByteArray) : mget (mset l k true) s = (decide (s = k) || mget l s) := by
  induction l with
  | nil => simp [mset, mget, beqB]
  | cons x r ih =>
    obtain ⟨y, v⟩ := x
    simp only [mset, beqB]
    by_cases h : k = y
    · subst h
      simp only [decide_true, cond_true, mget, beqB]
      by_cases h2 : s = k <;> simp [h2]
    · simp only [h, decide_false, cond_false, mget, beqB, ih]
      by_cases h2 : s = y
      · subst h2
        have : ¬ s = k := fun e => h e.symm
        simp [this]
      · simp [h2]
def mu (cs : List Con) (live : Live) : Nat := cs.countP fun c => !mget live c.2.2.2
theorem mu_le (cs : List Con) (live : Live) (k : ByteArray) : mu cs (mset live k true) ≤ mu cs live :=
  List.countP_mono_left fun c _ h => by
    rw [mget_mset] at h
    simp at h ⊢
    exact h.2
theorem mu_set : ∀ {cs : List Con} {c : Con} {live : Live}, c ∈ cs → mget live c.2.2.2 = false → mu cs (mset live c.2.2.2 true) + 1 ≤ mu cs live
  | [], _, _, h, _ => by simp at h
  | d :: r, c, live, h, hf => by
    have hm := mu_le r live c.2.2.2
    unfold mu at hm ⊢
    simp only [List.countP_cons]
    rcases List.mem_cons.1 h with rfl | h
    · have e1 : mget (mset live c.2.2.2 true) c.2.2.2 = true := by rw [mget_mset]; simp
      simp [e1, hf]
      exact hm
    · have ih := mu_set h hf
      unfold mu at ih
      have e1 : (if (!mget (mset live c.2.2.2 true) d.2.2.2) = true then 1 else 0) ≤ (if (!mget live d.2.2.2) = true then 1 else 0) := by
        rw [mget_mset]
        cases mget live d.2.2.2 <;> simp
        split <;> omega
      omega
theorem reachIn_mu (all : List Con) (x : ByteArray) : ∀ (cs : List Con) (on : List Bool) (todo : List ByteArray) (live : Live), (∀ c ∈ cs, c ∈ all) →
    (reachIn x cs on (todo, live)).1.length + mu all (reachIn x cs on (todo, live)).2 ≤ todo.length + mu all live
  | [], _, _, _, _ => Nat.le_refl _
  | _ :: _, [], _, _, _ => Nat.le_refl _
  | c :: cs, o :: on, todo, live, h => by
    simp only [reachIn]
    cases hb : (o && (decide (c.2.2.1 = x) && !mget live c.2.2.2)) with
    | false => exact reachIn_mu all x cs on todo live fun d hd => h d (by simp [hd])
    | true =>
      have hf : mget live c.2.2.2 = false := by
        simp only [Bool.and_eq_true, Bool.not_eq_true'] at hb
        exact hb.2.2
      have h1 := reachIn_mu all x cs on (todo ++ [c.2.2.2]) (mset live c.2.2.2 true) fun d hd => h d (by simp [hd])
      have h2 := mu_set (h c (by simp)) hf
      simp only [cond_true]
      rw [List.length_append, List.length_singleton] at h1
      omega
theorem room9 {n : Nat} (h : n ≤ 1000000000) : room tt 9 n := by
  show n * 16 ≤ 140737488355328; omega
theorem loop44b (cs : List Con) (on : List Bool) (hon : on.length = cs.length) (hl : cs.length ≤ 1000000) (x a : ByteArray) (b : List Con) (c : List Coi) (d : ByteArray) (R0 : List Bool → ByteArray → List Con → List Coi → ByteArray → Live → List ByteArray → Prop) :
    ∀ n k (i : Nat) (todo : List ByteArray) (live : Live), k < n → i + k = cs.length → todo.length + k ≤ 100000000 →
      R0 on a b c d (reachIn x (cs.drop i) (on.drop i) (todo, live)).2 (reachIn x (cs.drop i) (on.drop i) (todo, live)).1 → G44_2 R0 n on x cs cs.length i a b c d live todo := by
  intro n
  induction n with
  | zero => intro k i todo live h; omega
  | succ n ih =>
    intro k i todo live hk hi hb h
    refine brP_intro (fun e => ?_) (fun e => ?_)
    · have e : i < cs.length := by simpa using e
      cases k with
      | zero => omega
      | succ k =>
        rw [getE_cons k74 cs i e, getE_cons .bool on i (by omega)] at h
        simp only [reachIn] at h
        have hw : IntKind.i64.wrap ((i : Int) + 1) = ((i + 1 : Nat) : Int) := by rw [wrap_in (by omega) (by omega)]; omega
        rw [hw]
        have skip : R0 on a b c d (reachIn x (cs.drop (i + 1)) (on.drop (i + 1)) (todo, live)).2 (reachIn x (cs.drop (i + 1)) (on.drop (i + 1)) (todo, live)).1 → G44_2 R0 n on x cs cs.length (i + 1 : Nat) a b c d live todo :=
          ih k (i + 1) todo live (by omega) (by omega) (by omega)
        refine ⟨⟨by omega, by omega⟩, ⟨by omega, by omega⟩, ?_⟩
        refine brP_intro (fun f => ?_) (fun f => ?_)
        · simp only [f, Bool.true_and] at h
          refine brP_intro (fun g => ?_) (fun g => ?_)
          · rw [strEq] at g
            simp only [g, Bool.true_and] at h
            refine brP_intro (fun j => ?_) (fun j => ?_)
            · simp only [j, cond_true] at h
              refine ⟨room9 (by rw [List.length_set, List.length_replicate]; omega), ?_⟩
              exact ih k (i + 1) (todo ++ [(getE k74 cs i).2.2.2]) _ (by omega) (by omega) (by rw [List.length_append, List.length_singleton]; omega) h
            · simp only [j, cond_false] at h
              exact skip h
          · rw [strEq] at g
            simp only [g, Bool.false_and, cond_false] at h
            exact skip h
        · simp only [f, Bool.false_and, cond_false] at h
          exact skip h
    · have e : ¬ i < cs.length := by simpa using e
      rw [List.drop_of_length_le (by omega)] at h
      simpa [reachIn] using h
theorem loop44a (cs : List Con) (on : List Bool) (hon : on.length = cs.length) (hl : cs.length ≤ 1000000) (a : ByteArray) (c : List Coi) (d : ByteArray) (R0 : Live → Prop) :
    ∀ n (todo : List ByteArray) (live : Live), todo.length + mu cs live < n → todo.length + mu cs live ≤ 10000000 → R0 (reachGo cs on n todo live) → G44_0 R0 n on a cs c d live todo := by
  intro n
  induction n with
  | zero => intro todo live h; omega
  | succ n ih =>
    intro todo live hn hb h
    cases todo with
    | nil => exact h
    | cons x todo =>
      refine brP_intro (fun e => ?_) (fun e => by simp at e)
      have hm := reachIn_mu cs x cs on todo live fun _ h => h
      rw [List.length_cons] at hn hb
      refine ⟨⟨by omega, by simp⟩, ⟨by omega, by rw [List.length_cons]; omega, by simp⟩, cs.length + 1, ?_⟩
      refine loop44b cs on hon hl x a cs c d _ _ cs.length 0 todo live (by omega) (by omega) (by omega) ?_
      rw [List.drop_zero, List.drop_zero]
      exact ih _ _ (by omega) (by omega) h
theorem spec44 : SpecOk Try.prog 44 sp44 := S2.ok tt_ok mixed env44 Try.func44 fun (r : Rung) (on : List Bool) Q h => ok44 Q r on <| by
  obtain ⟨hl, h⟩ := h
  unfold conductsR at h
  have hmu : mu r.contacts [(lnode, true)] ≤ r.contacts.length := List.countP_le_length
  refine brP_intro (fun e => ?_) (fun e => ?_)
  · have e : ¬ on.length = r.contacts.length := by
      intro h2
      have h3 : on.length = (Prod.fst (Prod.snd r)).length := h2
      rw [h3] at e
      simp at e
    simp only [e, decide_false, cond_false] at h
    exact h
  · have e : on.length = r.contacts.length := by
      have h3 : ((on.length : Int) = ((Prod.fst (Prod.snd r)).length : Int)) := by simpa using e
      have h4 : on.length = (Prod.fst (Prod.snd r)).length := by omega
      exact h4
    simp only [e, decide_true, cond_true] at h
    refine ⟨r.contacts.length + 2, loop44a r.contacts on e hl _ _ _ _ _ [lnode] [(lnode, true)] ?_ ?_ h⟩
    · rw [List.length_singleton]; omega
    · rw [List.length_singleton]; omega
end Go.AM
