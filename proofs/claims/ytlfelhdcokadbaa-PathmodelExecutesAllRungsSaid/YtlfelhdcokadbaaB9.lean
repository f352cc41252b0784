/- Functions of the program: a rung's validity. Conditions: none. -/
import Derived.Test.YtlfelhdcokadbaaB7
import Derived.Test.YtlfelhdcokadbaaB5
set_option linter.all false
namespace Go.AM
open Go.Proofs
-- f36 "busbar/printer.rung" ['60', '22', '46'] -> ['32']
def A36 : Ann := [(1, [3, 5, 30, 31, 32], [3, 5], [6]), (3, [3, 5, 61, 62, 63], [5], [6])]
def E36 : Env := [(37, sp37), (53, sp53), (54, sp54), (55, sp55)]
def I36 (p0 : (k59 : K).ty) (p1 : ((.slice 46 k45) : K).ty) (p2 : (k45 : K).ty) : List V1 := [nfK k59 p0, nfK (.slice 46 k45) p1, nfK k45 p2]
noncomputable def L36_1 : Code := Code.a (Code.a (Code.b (Code.a (Code.b (Code.b (Code.b (Func.code Try.f36)))))))
def S36_1 (l30 : List (K.ty k74)) (x31 : Int) (x32 : Int) (xh0_0 : Int) (xh0_1 : Int) (xh0_2 : Int) (xh0_3 : Int) (sh1_0 : ByteArray) (lh1_1 : List (K.ty k74)) (lh1_2 : List (K.ty k76)) (sh1_3 : ByteArray) : St := sp (90 : Nat) [((3 : Nat), V.v (V1.one (Lf.ptr (nat_lit 0) (nat_lit 0)))), ((5 : Nat), V.v (V1.one (Lf.ptr (nat_lit 1) (nat_lit 0)))), ((30 : Nat), V.v (V1.one (Lf.sl (75 : TypeId) k74 l30))), ((31 : Nat), V.v (V1.one (Lf.int IntKind.i64 x31))), ((32 : Nat), V.v (V1.one (Lf.int IntKind.i64 x32)))] [Ob.box (60 : Nat) [Lf.int IntKind.i64 xh0_0, Lf.int IntKind.i64 xh0_1, Lf.int IntKind.i64 xh0_2, Lf.int IntKind.i64 xh0_3], Ob.box (46 : Nat) [Lf.str sh1_0, Lf.sl (75 : TypeId) k74 lh1_1, Lf.sl (77 : TypeId) k76 lh1_2, Lf.str sh1_3]]
def X36_1_0 (x6 : Int) : St := sp (90 : Nat) [((6 : Nat), V.v (V1.one (Lf.int IntKind.i64 x6)))] []
def X36_1_1 (xh0_0 : Int) (xh0_1 : Int) (xh0_2 : Int) (xh0_3 : Int) (sh1_0 : ByteArray) (lh1_1 : List (K.ty k74)) (lh1_2 : List (K.ty k76)) (sh1_3 : ByteArray) : St := sp (90 : Nat) [((3 : Nat), V.v (V1.one (Lf.ptr (nat_lit 0) (nat_lit 0)))), ((5 : Nat), V.v (V1.one (Lf.ptr (nat_lit 1) (nat_lit 0))))] [Ob.box (60 : Nat) [Lf.int IntKind.i64 xh0_0, Lf.int IntKind.i64 xh0_1, Lf.int IntKind.i64 xh0_2, Lf.int IntKind.i64 xh0_3], Ob.box (46 : Nat) [Lf.str sh1_0, Lf.sl (75 : TypeId) k74 lh1_1, Lf.sl (77 : TypeId) k76 lh1_2, Lf.str sh1_3]]
noncomputable def L36_3 : Code := Code.a (Code.a (Code.b (Code.a (Code.b (Code.b (Code.b (Code.b (Code.b (Func.code Try.f36)))))))))
def S36_3 (l61 : List (K.ty k76)) (x62 : Int) (x63 : Int) (xh0_0 : Int) (xh0_1 : Int) (xh0_2 : Int) (xh0_3 : Int) (sh1_0 : ByteArray) (lh1_1 : List (K.ty k74)) (lh1_2 : List (K.ty k76)) (sh1_3 : ByteArray) : St := sp (90 : Nat) [((3 : Nat), V.v (V1.one (Lf.ptr (nat_lit 0) (nat_lit 0)))), ((5 : Nat), V.v (V1.one (Lf.ptr (nat_lit 1) (nat_lit 0)))), ((61 : Nat), V.v (V1.one (Lf.sl (77 : TypeId) k76 l61))), ((62 : Nat), V.v (V1.one (Lf.int IntKind.i64 x62))), ((63 : Nat), V.v (V1.one (Lf.int IntKind.i64 x63)))] [Ob.box (60 : Nat) [Lf.int IntKind.i64 xh0_0, Lf.int IntKind.i64 xh0_1, Lf.int IntKind.i64 xh0_2, Lf.int IntKind.i64 xh0_3], Ob.box (46 : Nat) [Lf.str sh1_0, Lf.sl (75 : TypeId) k74 lh1_1, Lf.sl (77 : TypeId) k76 lh1_2, Lf.str sh1_3]]
def X36_3_0 (x6 : Int) : St := sp (90 : Nat) [((6 : Nat), V.v (V1.one (Lf.int IntKind.i64 x6)))] []
def X36_3_1 (sh0_0 : ByteArray) (lh0_1 : List (K.ty k74)) (lh0_2 : List (K.ty k76)) (sh0_3 : ByteArray) : St := sp (90 : Nat) [((5 : Nat), V.v (V1.one (Lf.ptr (nat_lit 0) (nat_lit 0))))] [Ob.box (46 : Nat) [Lf.str sh0_0, Lf.sl (75 : TypeId) k74 lh0_1, Lf.sl (77 : TypeId) k76 lh0_2, Lf.str sh0_3]]
def t36_3 (again : List (K.ty k76) → Int → Int → Int → Int → Int → Int → ByteArray → List (K.ty k74) → List (K.ty k76) → ByteArray → Prop) (R0 : Int → Prop) (R1 : ByteArray → List (K.ty k74) → List (K.ty k76) → ByteArray → Prop) (l61 : List (K.ty k76)) (x62 : Int) (x63 : Int) (xh0_0 : Int) (xh0_1 : Int) (xh0_2 : Int) (xh0_3 : Int) (sh1_0 : ByteArray) (lh1_1 : List (K.ty k74)) (lh1_2 : List (K.ty k76)) (sh1_3 : ByteArray) : Prop :=
  brP (decide (x63 < x62)) (bound x63 (List.length l61) ∧ brP (partE (xh0_0, xh0_1, xh0_2, xh0_3) (getE k76 l61 x63).fst (getE k76 l61 x63).snd != (0 : Int)) (R0 (partE (xh0_0, xh0_1, xh0_2, xh0_3) (getE k76 l61 x63).fst (getE k76 l61 x63).snd)) (brP ((getE k76 l61 x63).snd.fst == (0 : Int)) (R0 (2 : Int)) (again l61 x62 (IntKind.wrap IntKind.i64 (x63 + (1 : Int))) xh0_0 xh0_1 xh0_2 xh0_3 sh1_0 lh1_1 lh1_2 sh1_3))) (R1 sh1_0 lh1_1 lh1_2 sh1_3)
theorem t36_3_mono {again : List (K.ty k76) → Int → Int → Int → Int → Int → Int → ByteArray → List (K.ty k74) → List (K.ty k76) → ByteArray → Prop} {R0 : Int → Prop} {R1 : ByteArray → List (K.ty k74) → List (K.ty k76) → ByteArray → Prop} {again' : List (K.ty k76) → Int → Int → Int → Int → Int → Int → ByteArray → List (K.ty k74) → List (K.ty k76) → ByteArray → Prop} {R0' : Int → Prop} {R1' : ByteArray → List (K.ty k74) → List (K.ty k76) → ByteArray → Prop} (ha : ∀ l61 x62 x63 xh0_0 xh0_1 xh0_2 xh0_3 sh1_0 lh1_1 lh1_2 sh1_3, again l61 x62 x63 xh0_0 xh0_1 xh0_2 xh0_3 sh1_0 lh1_1 lh1_2 sh1_3 → again' l61 x62 x63 xh0_0 xh0_1 xh0_2 xh0_3 sh1_0 lh1_1 lh1_2 sh1_3) (hr0 : ∀ x6, R0 x6 → R0' x6) (hr1 : ∀ sh0_0 lh0_1 lh0_2 sh0_3, R1 sh0_0 lh0_1 lh0_2 sh0_3 → R1' sh0_0 lh0_1 lh0_2 sh0_3) (l61 : List (K.ty k76)) (x62 : Int) (x63 : Int) (xh0_0 : Int) (xh0_1 : Int) (xh0_2 : Int) (xh0_3 : Int) (sh1_0 : ByteArray) (lh1_1 : List (K.ty k74)) (lh1_2 : List (K.ty k76)) (sh1_3 : ByteArray) :
    t36_3 again R0 R1 l61 x62 x63 xh0_0 xh0_1 xh0_2 xh0_3 sh1_0 lh1_1 lh1_2 sh1_3 → t36_3 again' R0' R1' l61 x62 x63 xh0_0 xh0_1 xh0_2 xh0_3 sh1_0 lh1_1 lh1_2 sh1_3 :=
  brM (andM (id) (brM (hr0 _) (brM (hr0 _) (ha _ _ _ _ _ _ _ _ _ _ _)))) (hr1 _ _ _ _)
theorem t36_3_eq (n : Nat) (Q : Ex → St → Prop) (l61 : List (K.ty k76)) (x62 : Int) (x63 : Int) (xh0_0 : Int) (xh0_1 : Int) (xh0_2 : Int) (xh0_3 : Int) (sh1_0 : ByteArray) (lh1_1 : List (K.ty k74)) (lh1_2 : List (K.ty k76)) (sh1_3 : ByteArray) :
    t36_3 (fun l61 x62 x63 xh0_0 xh0_1 xh0_2 xh0_3 sh1_0 lh1_1 lh1_2 sh1_3 => loopP (awp tt E36 A36 L36_3 3) ([(3 : Nat), (5 : Nat), (61 : Nat), (62 : Nat), (63 : Nat)], [(5 : Nat)], [(6 : Nat)]) n (S36_3 l61 x62 x63 xh0_0 xh0_1 xh0_2 xh0_3 sh1_0 lh1_1 lh1_2 sh1_3) Q) (fun x6 => Q (Ex.ret) (X36_3_0 x6)) (fun sh0_0 lh0_1 lh0_2 sh0_3 => Q (Ex.exit (nat_lit 3)) (X36_3_1 sh0_0 lh0_1 lh0_2 sh0_3)) l61 x62 x63 xh0_0 xh0_1 xh0_2 xh0_3 sh1_0 lh1_1 lh1_2 sh1_3 = (loopP (awp tt E36 A36 L36_3 3) ([(3 : Nat), (5 : Nat), (61 : Nat), (62 : Nat), (63 : Nat)], [(5 : Nat)], [(6 : Nat)]) (n + 1) (S36_3 l61 x62 x63 xh0_0 xh0_1 xh0_2 xh0_3 sh1_0 lh1_1 lh1_2 sh1_3) Q) := by kernel_rfl
def G36_3 (R0 : Int → Prop) (R1 : ByteArray → List (K.ty k74) → List (K.ty k76) → ByteArray → Prop) : Nat → List (K.ty k76) → Int → Int → Int → Int → Int → Int → ByteArray → List (K.ty k74) → List (K.ty k76) → ByteArray → Prop
  | 0, _, _, _, _, _, _, _, _, _, _, _ => False
  | n + 1, l61, x62, x63, xh0_0, xh0_1, xh0_2, xh0_3, sh1_0, lh1_1, lh1_2, sh1_3 => t36_3 (G36_3 R0 R1 n) R0 R1 l61 x62 x63 xh0_0 xh0_1 xh0_2 xh0_3 sh1_0 lh1_1 lh1_2 sh1_3
theorem T36_3 {R0 : Int → Prop} {R1 : ByteArray → List (K.ty k74) → List (K.ty k76) → ByteArray → Prop} (Q : Ex → St → Prop) (hr0 : ∀ x6, R0 x6 → Of (Q (Ex.ret) (X36_3_0 x6))) (hr1 : ∀ sh0_0 lh0_1 lh0_2 sh0_3, R1 sh0_0 lh0_1 lh0_2 sh0_3 → Of (Q (Ex.exit (nat_lit 3)) (X36_3_1 sh0_0 lh0_1 lh0_2 sh0_3))) : ∀ (n : Nat) (l61 : List (K.ty k76)) (x62 : Int) (x63 : Int) (xh0_0 : Int) (xh0_1 : Int) (xh0_2 : Int) (xh0_3 : Int) (sh1_0 : ByteArray) (lh1_1 : List (K.ty k74)) (lh1_2 : List (K.ty k76)) (sh1_3 : ByteArray), G36_3 R0 R1 n l61 x62 x63 xh0_0 xh0_1 xh0_2 xh0_3 sh1_0 lh1_1 lh1_2 sh1_3 → Of (loopP (awp tt E36 A36 L36_3 3) ([(3 : Nat), (5 : Nat), (61 : Nat), (62 : Nat), (63 : Nat)], [(5 : Nat)], [(6 : Nat)]) n (S36_3 l61 x62 x63 xh0_0 xh0_1 xh0_2 xh0_3 sh1_0 lh1_1 lh1_2 sh1_3) Q) := by
  intro n
  induction n with
  | zero => intro l61 x62 x63 xh0_0 xh0_1 xh0_2 xh0_3 sh1_0 lh1_1 lh1_2 sh1_3 h; exact h.elim
  | succ n ih =>
    intro l61 x62 x63 xh0_0 xh0_1 xh0_2 xh0_3 sh1_0 lh1_1 lh1_2 sh1_3 h
    exact kcO (t36_3_eq n Q l61 x62 x63 xh0_0 xh0_1 xh0_2 xh0_3 sh1_0 lh1_1 lh1_2 sh1_3) (t36_3_mono (fun _ _ _ _ _ _ _ _ _ _ _ h => (ih _ _ _ _ _ _ _ _ _ _ _ h).out) (fun _ h => (hr0 _ h).out) (fun _ _ _ _ h => (hr1 _ _ _ _ h).out) l61 x62 x63 xh0_0 xh0_1 xh0_2 xh0_3 sh1_0 lh1_1 lh1_2 sh1_3 h)
def t36_1 (again : List (K.ty k74) → Int → Int → Int → Int → Int → Int → ByteArray → List (K.ty k74) → List (K.ty k76) → ByteArray → Prop) (R0 : Int → Prop) (R1 : Int → Int → Int → Int → ByteArray → List (K.ty k74) → List (K.ty k76) → ByteArray → Prop) (l30 : List (K.ty k74)) (x31 : Int) (x32 : Int) (xh0_0 : Int) (xh0_1 : Int) (xh0_2 : Int) (xh0_3 : Int) (sh1_0 : ByteArray) (lh1_1 : List (K.ty k74)) (lh1_2 : List (K.ty k76)) (sh1_3 : ByteArray) : Prop :=
  brP (decide (x32 < x31)) (bound x32 (List.length l30) ∧ brP (partE (xh0_0, xh0_1, xh0_2, xh0_3) (getE k74 l30 x32).fst (getE k74 l30 x32).snd.fst != (0 : Int)) (R0 (partE (xh0_0, xh0_1, xh0_2, xh0_3) (getE k74 l30 x32).fst (getE k74 l30 x32).snd.fst)) (brP (!isName (getE k74 l30 x32).snd.snd.fst) (R0 (6 : Int)) (brP (!isName (getE k74 l30 x32).snd.snd.snd) (R0 (6 : Int)) (again l30 x31 (IntKind.wrap IntKind.i64 (x32 + (1 : Int))) xh0_0 xh0_1 xh0_2 xh0_3 sh1_0 lh1_1 lh1_2 sh1_3)))) (R1 xh0_0 xh0_1 xh0_2 xh0_3 sh1_0 lh1_1 lh1_2 sh1_3)
theorem t36_1_mono {again : List (K.ty k74) → Int → Int → Int → Int → Int → Int → ByteArray → List (K.ty k74) → List (K.ty k76) → ByteArray → Prop} {R0 : Int → Prop} {R1 : Int → Int → Int → Int → ByteArray → List (K.ty k74) → List (K.ty k76) → ByteArray → Prop} {again' : List (K.ty k74) → Int → Int → Int → Int → Int → Int → ByteArray → List (K.ty k74) → List (K.ty k76) → ByteArray → Prop} {R0' : Int → Prop} {R1' : Int → Int → Int → Int → ByteArray → List (K.ty k74) → List (K.ty k76) → ByteArray → Prop} (ha : ∀ l30 x31 x32 xh0_0 xh0_1 xh0_2 xh0_3 sh1_0 lh1_1 lh1_2 sh1_3, again l30 x31 x32 xh0_0 xh0_1 xh0_2 xh0_3 sh1_0 lh1_1 lh1_2 sh1_3 → again' l30 x31 x32 xh0_0 xh0_1 xh0_2 xh0_3 sh1_0 lh1_1 lh1_2 sh1_3) (hr0 : ∀ x6, R0 x6 → R0' x6) (hr1 : ∀ xh0_0 xh0_1 xh0_2 xh0_3 sh1_0 lh1_1 lh1_2 sh1_3, R1 xh0_0 xh0_1 xh0_2 xh0_3 sh1_0 lh1_1 lh1_2 sh1_3 → R1' xh0_0 xh0_1 xh0_2 xh0_3 sh1_0 lh1_1 lh1_2 sh1_3) (l30 : List (K.ty k74)) (x31 : Int) (x32 : Int) (xh0_0 : Int) (xh0_1 : Int) (xh0_2 : Int) (xh0_3 : Int) (sh1_0 : ByteArray) (lh1_1 : List (K.ty k74)) (lh1_2 : List (K.ty k76)) (sh1_3 : ByteArray) :
    t36_1 again R0 R1 l30 x31 x32 xh0_0 xh0_1 xh0_2 xh0_3 sh1_0 lh1_1 lh1_2 sh1_3 → t36_1 again' R0' R1' l30 x31 x32 xh0_0 xh0_1 xh0_2 xh0_3 sh1_0 lh1_1 lh1_2 sh1_3 :=
  brM (andM (id) (brM (hr0 _) (brM (hr0 _) (brM (hr0 _) (ha _ _ _ _ _ _ _ _ _ _ _))))) (hr1 _ _ _ _ _ _ _ _)
theorem t36_1_eq (n : Nat) (Q : Ex → St → Prop) (l30 : List (K.ty k74)) (x31 : Int) (x32 : Int) (xh0_0 : Int) (xh0_1 : Int) (xh0_2 : Int) (xh0_3 : Int) (sh1_0 : ByteArray) (lh1_1 : List (K.ty k74)) (lh1_2 : List (K.ty k76)) (sh1_3 : ByteArray) :
    t36_1 (fun l30 x31 x32 xh0_0 xh0_1 xh0_2 xh0_3 sh1_0 lh1_1 lh1_2 sh1_3 => loopP (awp tt E36 A36 L36_1 1) ([(3 : Nat), (5 : Nat), (30 : Nat), (31 : Nat), (32 : Nat)], [(3 : Nat), (5 : Nat)], [(6 : Nat)]) n (S36_1 l30 x31 x32 xh0_0 xh0_1 xh0_2 xh0_3 sh1_0 lh1_1 lh1_2 sh1_3) Q) (fun x6 => Q (Ex.ret) (X36_1_0 x6)) (fun xh0_0 xh0_1 xh0_2 xh0_3 sh1_0 lh1_1 lh1_2 sh1_3 => Q (Ex.exit (nat_lit 1)) (X36_1_1 xh0_0 xh0_1 xh0_2 xh0_3 sh1_0 lh1_1 lh1_2 sh1_3)) l30 x31 x32 xh0_0 xh0_1 xh0_2 xh0_3 sh1_0 lh1_1 lh1_2 sh1_3 = (loopP (awp tt E36 A36 L36_1 1) ([(3 : Nat), (5 : Nat), (30 : Nat), (31 : Nat), (32 : Nat)], [(3 : Nat), (5 : Nat)], [(6 : Nat)]) (n + 1) (S36_1 l30 x31 x32 xh0_0 xh0_1 xh0_2 xh0_3 sh1_0 lh1_1 lh1_2 sh1_3) Q) := by kernel_rfl
def G36_1 (R0 : Int → Prop) (R1 : Int → Int → Int → Int → ByteArray → List (K.ty k74) → List (K.ty k76) → ByteArray → Prop) : Nat → List (K.ty k74) → Int → Int → Int → Int → Int → Int → ByteArray → List (K.ty k74) → List (K.ty k76) → ByteArray → Prop
  | 0, _, _, _, _, _, _, _, _, _, _, _ => False
  | n + 1, l30, x31, x32, xh0_0, xh0_1, xh0_2, xh0_3, sh1_0, lh1_1, lh1_2, sh1_3 => t36_1 (G36_1 R0 R1 n) R0 R1 l30 x31 x32 xh0_0 xh0_1 xh0_2 xh0_3 sh1_0 lh1_1 lh1_2 sh1_3
theorem T36_1 {R0 : Int → Prop} {R1 : Int → Int → Int → Int → ByteArray → List (K.ty k74) → List (K.ty k76) → ByteArray → Prop} (Q : Ex → St → Prop) (hr0 : ∀ x6, R0 x6 → Of (Q (Ex.ret) (X36_1_0 x6))) (hr1 : ∀ xh0_0 xh0_1 xh0_2 xh0_3 sh1_0 lh1_1 lh1_2 sh1_3, R1 xh0_0 xh0_1 xh0_2 xh0_3 sh1_0 lh1_1 lh1_2 sh1_3 → Of (Q (Ex.exit (nat_lit 1)) (X36_1_1 xh0_0 xh0_1 xh0_2 xh0_3 sh1_0 lh1_1 lh1_2 sh1_3))) : ∀ (n : Nat) (l30 : List (K.ty k74)) (x31 : Int) (x32 : Int) (xh0_0 : Int) (xh0_1 : Int) (xh0_2 : Int) (xh0_3 : Int) (sh1_0 : ByteArray) (lh1_1 : List (K.ty k74)) (lh1_2 : List (K.ty k76)) (sh1_3 : ByteArray), G36_1 R0 R1 n l30 x31 x32 xh0_0 xh0_1 xh0_2 xh0_3 sh1_0 lh1_1 lh1_2 sh1_3 → Of (loopP (awp tt E36 A36 L36_1 1) ([(3 : Nat), (5 : Nat), (30 : Nat), (31 : Nat), (32 : Nat)], [(3 : Nat), (5 : Nat)], [(6 : Nat)]) n (S36_1 l30 x31 x32 xh0_0 xh0_1 xh0_2 xh0_3 sh1_0 lh1_1 lh1_2 sh1_3) Q) := by
  intro n
  induction n with
  | zero => intro l30 x31 x32 xh0_0 xh0_1 xh0_2 xh0_3 sh1_0 lh1_1 lh1_2 sh1_3 h; exact h.elim
  | succ n ih =>
    intro l30 x31 x32 xh0_0 xh0_1 xh0_2 xh0_3 sh1_0 lh1_1 lh1_2 sh1_3 h
    exact kcO (t36_1_eq n Q l30 x31 x32 xh0_0 xh0_1 xh0_2 xh0_3 sh1_0 lh1_1 lh1_2 sh1_3) (t36_1_mono (fun _ _ _ _ _ _ _ _ _ _ _ h => (ih _ _ _ _ _ _ _ _ _ _ _ h).out) (fun _ h => (hr0 _ h).out) (fun _ _ _ _ _ _ _ _ h => (hr1 _ _ _ _ _ _ _ _ h).out) l30 x31 x32 xh0_0 xh0_1 xh0_2 xh0_3 sh1_0 lh1_1 lh1_2 sh1_3 h)
def t36 (Q : List V1 → List Ob → Prop) (lp0 : K.ty k59 → K.ty (K.slice (46 : TypeId) k45) → K.ty k45 → Prop) (lp1 : K.ty k59 → K.ty (K.slice (46 : TypeId) k45) → K.ty k45 → Prop) (p0 : K.ty k59) (p1 : K.ty (K.slice (46 : TypeId) k45)) (p2 : K.ty k45) : Prop :=
  brP (ByteArray.toList p2.fst != ByteArray.toList (ByteArray.mk #[])) (brP (!isName p2.fst) (Q [V1.one (Lf.int IntKind.i64 (6 : Int))] []) (List.length p1 ≤ (4611686018427387904 : Nat) ∧ brP (decide ((0 : Int) ≤ idxP (fun (r : Rung) => decide (Rung.label r = Rung.label p2)) p1 (0 : Nat))) (Q [V1.one (Lf.int IntKind.i64 (9 : Int))] []) (brP (decide ((↑(List.length p2.snd.fst) : Int) > (256 : Int))) (Q [V1.one (Lf.int IntKind.i64 (10 : Int))] []) (lp0 p0 p1 p2)))) (brP (decide ((↑(List.length p2.snd.fst) : Int) > (256 : Int))) (Q [V1.one (Lf.int IntKind.i64 (10 : Int))] []) (lp1 p0 p1 p2))
theorem t36_mono {Q : List V1 → List Ob → Prop} {Q' : List V1 → List Ob → Prop} {lp0 : K.ty k59 → K.ty (K.slice (46 : TypeId) k45) → K.ty k45 → Prop} {lp1 : K.ty k59 → K.ty (K.slice (46 : TypeId) k45) → K.ty k45 → Prop} {lp0' : K.ty k59 → K.ty (K.slice (46 : TypeId) k45) → K.ty k45 → Prop} {lp1' : K.ty k59 → K.ty (K.slice (46 : TypeId) k45) → K.ty k45 → Prop} (hq : ∀ r h, Q r h → Q' r h) (hlp0 : ∀ p0 p1 p2, lp0 p0 p1 p2 → lp0' p0 p1 p2) (hlp1 : ∀ p0 p1 p2, lp1 p0 p1 p2 → lp1' p0 p1 p2) (p0 : K.ty k59) (p1 : K.ty (K.slice (46 : TypeId) k45)) (p2 : K.ty k45) :
    t36 Q lp0 lp1 p0 p1 p2 → t36 Q' lp0' lp1' p0 p1 p2 :=
  brM (brM (hq _ _) (andM (id) (brM (hq _ _) (brM (hq _ _) (hlp0 _ _ _))))) (brM (hq _ _) (hlp1 _ _ _))
theorem t36_eq (Q : List V1 → List Ob → Prop) (p0 : K.ty k59) (p1 : K.ty (K.slice (46 : TypeId) k45)) (p2 : K.ty k45) :
    t36 Q (fun p0 p1 p2 => ∃ m, loopP (awp tt E36 A36 L36_1 1) ([(3 : Nat), (5 : Nat), (30 : Nat), (31 : Nat), (32 : Nat)], [(3 : Nat), (5 : Nat)], [(6 : Nat)]) m (S36_1 (p2.snd.fst) ((↑(List.length p2.snd.fst) : Int)) ((0 : Int)) (p0.fst) (p0.snd.fst) (p0.snd.snd.fst) (p0.snd.snd.snd) (p2.fst) (p2.snd.fst) (p2.snd.snd.fst) (p2.snd.snd.snd)) (blkC (1 : Nat) (seqC (awp tt E36 A36 (Code.b (Code.b (Code.b (Code.b (Func.code Try.f36))))) (0 : Nat)) (topC tt Try.f36 0 Q)))) (fun p0 p1 p2 => ∃ m, loopP (awp tt E36 A36 L36_1 1) ([(3 : Nat), (5 : Nat), (30 : Nat), (31 : Nat), (32 : Nat)], [(3 : Nat), (5 : Nat)], [(6 : Nat)]) m (S36_1 (p2.snd.fst) ((↑(List.length p2.snd.fst) : Int)) ((0 : Int)) (p0.fst) (p0.snd.fst) (p0.snd.snd.fst) (p0.snd.snd.snd) (p2.fst) (p2.snd.fst) (p2.snd.snd.fst) (p2.snd.snd.snd)) (blkC (1 : Nat) (seqC (awp tt E36 A36 (Code.b (Code.b (Code.b (Code.b (Func.code Try.f36))))) (0 : Nat)) (topC tt Try.f36 0 Q)))) p0 p1 p2 = (afun tt E36 A36 Try.f36 (I36 p0 p1 p2) [] Q) := by kernel_rfl
def t36c1x1 (Q : List V1 → List Ob → Prop) (lp0 : K.ty k59 → K.ty (K.slice (46 : TypeId) k45) → K.ty k45 → Int → Int → Int → Int → ByteArray → List (K.ty k74) → List (K.ty k76) → ByteArray → Prop) (p0 : K.ty k59) (p1 : K.ty (K.slice (46 : TypeId) k45)) (p2 : K.ty k45) (xh0_0e3 : Int) (xh0_1e3 : Int) (xh0_2e3 : Int) (xh0_3e3 : Int) (sh1_0e3 : ByteArray) (lh1_1e3 : List (K.ty k74)) (lh1_2e3 : List (K.ty k76)) (sh1_3e3 : ByteArray) : Prop :=
  brP (decide ((↑(List.length lh1_2e3) : Int) > (16 : Int))) (Q [V1.one (Lf.int IntKind.i64 (10 : Int))] []) (lp0 p0 p1 p2 xh0_0e3 xh0_1e3 xh0_2e3 xh0_3e3 sh1_0e3 lh1_1e3 lh1_2e3 sh1_3e3)
theorem t36c1x1_mono {Q : List V1 → List Ob → Prop} {Q' : List V1 → List Ob → Prop} {lp0 : K.ty k59 → K.ty (K.slice (46 : TypeId) k45) → K.ty k45 → Int → Int → Int → Int → ByteArray → List (K.ty k74) → List (K.ty k76) → ByteArray → Prop} {lp0' : K.ty k59 → K.ty (K.slice (46 : TypeId) k45) → K.ty k45 → Int → Int → Int → Int → ByteArray → List (K.ty k74) → List (K.ty k76) → ByteArray → Prop} (hq : ∀ r h, Q r h → Q' r h) (hlp0 : ∀ p0 p1 p2 xh0_0e3 xh0_1e3 xh0_2e3 xh0_3e3 sh1_0e3 lh1_1e3 lh1_2e3 sh1_3e3, lp0 p0 p1 p2 xh0_0e3 xh0_1e3 xh0_2e3 xh0_3e3 sh1_0e3 lh1_1e3 lh1_2e3 sh1_3e3 → lp0' p0 p1 p2 xh0_0e3 xh0_1e3 xh0_2e3 xh0_3e3 sh1_0e3 lh1_1e3 lh1_2e3 sh1_3e3) (p0 : K.ty k59) (p1 : K.ty (K.slice (46 : TypeId) k45)) (p2 : K.ty k45) (xh0_0e3 : Int) (xh0_1e3 : Int) (xh0_2e3 : Int) (xh0_3e3 : Int) (sh1_0e3 : ByteArray) (lh1_1e3 : List (K.ty k74)) (lh1_2e3 : List (K.ty k76)) (sh1_3e3 : ByteArray) :
    t36c1x1 Q lp0 p0 p1 p2 xh0_0e3 xh0_1e3 xh0_2e3 xh0_3e3 sh1_0e3 lh1_1e3 lh1_2e3 sh1_3e3 → t36c1x1 Q' lp0' p0 p1 p2 xh0_0e3 xh0_1e3 xh0_2e3 xh0_3e3 sh1_0e3 lh1_1e3 lh1_2e3 sh1_3e3 :=
  brM (hq _ _) (hlp0 _ _ _ _ _ _ _ _ _ _ _)
theorem t36c1x1_eq (Q : List V1 → List Ob → Prop) (p0 : K.ty k59) (p1 : K.ty (K.slice (46 : TypeId) k45)) (p2 : K.ty k45) (xh0_0e3 : Int) (xh0_1e3 : Int) (xh0_2e3 : Int) (xh0_3e3 : Int) (sh1_0e3 : ByteArray) (lh1_1e3 : List (K.ty k74)) (lh1_2e3 : List (K.ty k76)) (sh1_3e3 : ByteArray) :
    t36c1x1 Q (fun p0 p1 p2 xh0_0e3 xh0_1e3 xh0_2e3 xh0_3e3 sh1_0e3 lh1_1e3 lh1_2e3 sh1_3e3 => ∃ m, loopP (awp tt E36 A36 L36_3 3) ([(3 : Nat), (5 : Nat), (61 : Nat), (62 : Nat), (63 : Nat)], [(5 : Nat)], [(6 : Nat)]) m (S36_3 (lh1_2e3) ((↑(List.length lh1_2e3) : Int)) ((0 : Int)) (xh0_0e3) (xh0_1e3) (xh0_2e3) (xh0_3e3) (sh1_0e3) (lh1_1e3) (lh1_2e3) (sh1_3e3)) (blkC (3 : Nat) (seqC (awp tt E36 A36 (Code.b (Code.b (Code.b (Code.b (Code.b (Code.b (Func.code Try.f36))))))) (0 : Nat)) (topC tt Try.f36 0 Q)))) p0 p1 p2 xh0_0e3 xh0_1e3 xh0_2e3 xh0_3e3 sh1_0e3 lh1_1e3 lh1_2e3 sh1_3e3 = ((blkC (1 : Nat) (seqC (awp tt E36 A36 (Code.b (Code.b (Code.b (Code.b (Func.code Try.f36))))) (0 : Nat)) (topC tt Try.f36 0 Q))) (Ex.exit (nat_lit 1)) (X36_1_1 xh0_0e3 xh0_1e3 xh0_2e3 xh0_3e3 sh1_0e3 lh1_1e3 lh1_2e3 sh1_3e3)) := by kernel_rfl
def t36c1x1c0x1 (Q : List V1 → List Ob → Prop) (p0 : K.ty k59) (p1 : K.ty (K.slice (46 : TypeId) k45)) (p2 : K.ty k45) (xh0_0e3 : Int) (xh0_1e3 : Int) (xh0_2e3 : Int) (xh0_3e3 : Int) (sh1_0e3 : ByteArray) (lh1_1e3 : List (K.ty k74)) (lh1_2e3 : List (K.ty k76)) (sh1_3e3 : ByteArray) (sh0_0e11 : ByteArray) (lh0_1e11 : List (K.ty k74)) (lh0_2e11 : List (K.ty k76)) (sh0_3e11 : ByteArray) : Prop :=
  brP (ByteArray.toList sh0_3e11 != ByteArray.toList (ByteArray.mk #[])) (brP (!isName sh0_3e11) (Q [V1.one (Lf.int IntKind.i64 (6 : Int))] []) (Q [V1.one (Lf.int IntKind.i64 (0 : Int))] [])) (Q [V1.one (Lf.int IntKind.i64 (0 : Int))] [])
theorem t36c1x1c0x1_mono {Q : List V1 → List Ob → Prop} {Q' : List V1 → List Ob → Prop} (hq : ∀ r h, Q r h → Q' r h) (p0 : K.ty k59) (p1 : K.ty (K.slice (46 : TypeId) k45)) (p2 : K.ty k45) (xh0_0e3 : Int) (xh0_1e3 : Int) (xh0_2e3 : Int) (xh0_3e3 : Int) (sh1_0e3 : ByteArray) (lh1_1e3 : List (K.ty k74)) (lh1_2e3 : List (K.ty k76)) (sh1_3e3 : ByteArray) (sh0_0e11 : ByteArray) (lh0_1e11 : List (K.ty k74)) (lh0_2e11 : List (K.ty k76)) (sh0_3e11 : ByteArray) :
    t36c1x1c0x1 Q p0 p1 p2 xh0_0e3 xh0_1e3 xh0_2e3 xh0_3e3 sh1_0e3 lh1_1e3 lh1_2e3 sh1_3e3 sh0_0e11 lh0_1e11 lh0_2e11 sh0_3e11 → t36c1x1c0x1 Q' p0 p1 p2 xh0_0e3 xh0_1e3 xh0_2e3 xh0_3e3 sh1_0e3 lh1_1e3 lh1_2e3 sh1_3e3 sh0_0e11 lh0_1e11 lh0_2e11 sh0_3e11 :=
  brM (brM (hq _ _) (hq _ _)) (hq _ _)
theorem t36c1x1c0x1_eq (Q : List V1 → List Ob → Prop) (p0 : K.ty k59) (p1 : K.ty (K.slice (46 : TypeId) k45)) (p2 : K.ty k45) (xh0_0e3 : Int) (xh0_1e3 : Int) (xh0_2e3 : Int) (xh0_3e3 : Int) (sh1_0e3 : ByteArray) (lh1_1e3 : List (K.ty k74)) (lh1_2e3 : List (K.ty k76)) (sh1_3e3 : ByteArray) (sh0_0e11 : ByteArray) (lh0_1e11 : List (K.ty k74)) (lh0_2e11 : List (K.ty k76)) (sh0_3e11 : ByteArray) :
    t36c1x1c0x1 Q p0 p1 p2 xh0_0e3 xh0_1e3 xh0_2e3 xh0_3e3 sh1_0e3 lh1_1e3 lh1_2e3 sh1_3e3 sh0_0e11 lh0_1e11 lh0_2e11 sh0_3e11 = ((blkC (3 : Nat) (seqC (awp tt E36 A36 (Code.b (Code.b (Code.b (Code.b (Code.b (Code.b (Func.code Try.f36))))))) (0 : Nat)) (topC tt Try.f36 0 Q))) (Ex.exit (nat_lit 3)) (X36_3_1 sh0_0e11 lh0_1e11 lh0_2e11 sh0_3e11)) := by kernel_rfl
def t36c1x1c0x0 (Q : List V1 → List Ob → Prop) (p0 : K.ty k59) (p1 : K.ty (K.slice (46 : TypeId) k45)) (p2 : K.ty k45) (xh0_0e3 : Int) (xh0_1e3 : Int) (xh0_2e3 : Int) (xh0_3e3 : Int) (sh1_0e3 : ByteArray) (lh1_1e3 : List (K.ty k74)) (lh1_2e3 : List (K.ty k76)) (sh1_3e3 : ByteArray) (x6e11 : Int) : Prop :=
  Q [V1.one (Lf.int IntKind.i64 x6e11)] []
theorem t36c1x1c0x0_mono {Q : List V1 → List Ob → Prop} {Q' : List V1 → List Ob → Prop} (hq : ∀ r h, Q r h → Q' r h) (p0 : K.ty k59) (p1 : K.ty (K.slice (46 : TypeId) k45)) (p2 : K.ty k45) (xh0_0e3 : Int) (xh0_1e3 : Int) (xh0_2e3 : Int) (xh0_3e3 : Int) (sh1_0e3 : ByteArray) (lh1_1e3 : List (K.ty k74)) (lh1_2e3 : List (K.ty k76)) (sh1_3e3 : ByteArray) (x6e11 : Int) :
    t36c1x1c0x0 Q p0 p1 p2 xh0_0e3 xh0_1e3 xh0_2e3 xh0_3e3 sh1_0e3 lh1_1e3 lh1_2e3 sh1_3e3 x6e11 → t36c1x1c0x0 Q' p0 p1 p2 xh0_0e3 xh0_1e3 xh0_2e3 xh0_3e3 sh1_0e3 lh1_1e3 lh1_2e3 sh1_3e3 x6e11 :=
  hq _ _
theorem t36c1x1c0x0_eq (Q : List V1 → List Ob → Prop) (p0 : K.ty k59) (p1 : K.ty (K.slice (46 : TypeId) k45)) (p2 : K.ty k45) (xh0_0e3 : Int) (xh0_1e3 : Int) (xh0_2e3 : Int) (xh0_3e3 : Int) (sh1_0e3 : ByteArray) (lh1_1e3 : List (K.ty k74)) (lh1_2e3 : List (K.ty k76)) (sh1_3e3 : ByteArray) (x6e11 : Int) :
    t36c1x1c0x0 Q p0 p1 p2 xh0_0e3 xh0_1e3 xh0_2e3 xh0_3e3 sh1_0e3 lh1_1e3 lh1_2e3 sh1_3e3 x6e11 = ((blkC (3 : Nat) (seqC (awp tt E36 A36 (Code.b (Code.b (Code.b (Code.b (Code.b (Code.b (Func.code Try.f36))))))) (0 : Nat)) (topC tt Try.f36 0 Q))) (Ex.ret) (X36_3_0 x6e11)) := by kernel_rfl
def t36c1x0 (Q : List V1 → List Ob → Prop) (p0 : K.ty k59) (p1 : K.ty (K.slice (46 : TypeId) k45)) (p2 : K.ty k45) (x6e3 : Int) : Prop :=
  Q [V1.one (Lf.int IntKind.i64 x6e3)] []
theorem t36c1x0_mono {Q : List V1 → List Ob → Prop} {Q' : List V1 → List Ob → Prop} (hq : ∀ r h, Q r h → Q' r h) (p0 : K.ty k59) (p1 : K.ty (K.slice (46 : TypeId) k45)) (p2 : K.ty k45) (x6e3 : Int) :
    t36c1x0 Q p0 p1 p2 x6e3 → t36c1x0 Q' p0 p1 p2 x6e3 :=
  hq _ _
theorem t36c1x0_eq (Q : List V1 → List Ob → Prop) (p0 : K.ty k59) (p1 : K.ty (K.slice (46 : TypeId) k45)) (p2 : K.ty k45) (x6e3 : Int) :
    t36c1x0 Q p0 p1 p2 x6e3 = ((blkC (1 : Nat) (seqC (awp tt E36 A36 (Code.b (Code.b (Code.b (Code.b (Func.code Try.f36))))) (0 : Nat)) (topC tt Try.f36 0 Q))) (Ex.ret) (X36_1_0 x6e3)) := by kernel_rfl
def t36c0x1 (Q : List V1 → List Ob → Prop) (lp0 : K.ty k59 → K.ty (K.slice (46 : TypeId) k45) → K.ty k45 → Int → Int → Int → Int → ByteArray → List (K.ty k74) → List (K.ty k76) → ByteArray → Prop) (p0 : K.ty k59) (p1 : K.ty (K.slice (46 : TypeId) k45)) (p2 : K.ty k45) (xh0_0e3 : Int) (xh0_1e3 : Int) (xh0_2e3 : Int) (xh0_3e3 : Int) (sh1_0e3 : ByteArray) (lh1_1e3 : List (K.ty k74)) (lh1_2e3 : List (K.ty k76)) (sh1_3e3 : ByteArray) : Prop :=
  brP (decide ((↑(List.length lh1_2e3) : Int) > (16 : Int))) (Q [V1.one (Lf.int IntKind.i64 (10 : Int))] []) (lp0 p0 p1 p2 xh0_0e3 xh0_1e3 xh0_2e3 xh0_3e3 sh1_0e3 lh1_1e3 lh1_2e3 sh1_3e3)
theorem t36c0x1_mono {Q : List V1 → List Ob → Prop} {Q' : List V1 → List Ob → Prop} {lp0 : K.ty k59 → K.ty (K.slice (46 : TypeId) k45) → K.ty k45 → Int → Int → Int → Int → ByteArray → List (K.ty k74) → List (K.ty k76) → ByteArray → Prop} {lp0' : K.ty k59 → K.ty (K.slice (46 : TypeId) k45) → K.ty k45 → Int → Int → Int → Int → ByteArray → List (K.ty k74) → List (K.ty k76) → ByteArray → Prop} (hq : ∀ r h, Q r h → Q' r h) (hlp0 : ∀ p0 p1 p2 xh0_0e3 xh0_1e3 xh0_2e3 xh0_3e3 sh1_0e3 lh1_1e3 lh1_2e3 sh1_3e3, lp0 p0 p1 p2 xh0_0e3 xh0_1e3 xh0_2e3 xh0_3e3 sh1_0e3 lh1_1e3 lh1_2e3 sh1_3e3 → lp0' p0 p1 p2 xh0_0e3 xh0_1e3 xh0_2e3 xh0_3e3 sh1_0e3 lh1_1e3 lh1_2e3 sh1_3e3) (p0 : K.ty k59) (p1 : K.ty (K.slice (46 : TypeId) k45)) (p2 : K.ty k45) (xh0_0e3 : Int) (xh0_1e3 : Int) (xh0_2e3 : Int) (xh0_3e3 : Int) (sh1_0e3 : ByteArray) (lh1_1e3 : List (K.ty k74)) (lh1_2e3 : List (K.ty k76)) (sh1_3e3 : ByteArray) :
    t36c0x1 Q lp0 p0 p1 p2 xh0_0e3 xh0_1e3 xh0_2e3 xh0_3e3 sh1_0e3 lh1_1e3 lh1_2e3 sh1_3e3 → t36c0x1 Q' lp0' p0 p1 p2 xh0_0e3 xh0_1e3 xh0_2e3 xh0_3e3 sh1_0e3 lh1_1e3 lh1_2e3 sh1_3e3 :=
  brM (hq _ _) (hlp0 _ _ _ _ _ _ _ _ _ _ _)
theorem t36c0x1_eq (Q : List V1 → List Ob → Prop) (p0 : K.ty k59) (p1 : K.ty (K.slice (46 : TypeId) k45)) (p2 : K.ty k45) (xh0_0e3 : Int) (xh0_1e3 : Int) (xh0_2e3 : Int) (xh0_3e3 : Int) (sh1_0e3 : ByteArray) (lh1_1e3 : List (K.ty k74)) (lh1_2e3 : List (K.ty k76)) (sh1_3e3 : ByteArray) :
    t36c0x1 Q (fun p0 p1 p2 xh0_0e3 xh0_1e3 xh0_2e3 xh0_3e3 sh1_0e3 lh1_1e3 lh1_2e3 sh1_3e3 => ∃ m, loopP (awp tt E36 A36 L36_3 3) ([(3 : Nat), (5 : Nat), (61 : Nat), (62 : Nat), (63 : Nat)], [(5 : Nat)], [(6 : Nat)]) m (S36_3 (lh1_2e3) ((↑(List.length lh1_2e3) : Int)) ((0 : Int)) (xh0_0e3) (xh0_1e3) (xh0_2e3) (xh0_3e3) (sh1_0e3) (lh1_1e3) (lh1_2e3) (sh1_3e3)) (blkC (3 : Nat) (seqC (awp tt E36 A36 (Code.b (Code.b (Code.b (Code.b (Code.b (Code.b (Func.code Try.f36))))))) (0 : Nat)) (topC tt Try.f36 0 Q)))) p0 p1 p2 xh0_0e3 xh0_1e3 xh0_2e3 xh0_3e3 sh1_0e3 lh1_1e3 lh1_2e3 sh1_3e3 = ((blkC (1 : Nat) (seqC (awp tt E36 A36 (Code.b (Code.b (Code.b (Code.b (Func.code Try.f36))))) (0 : Nat)) (topC tt Try.f36 0 Q))) (Ex.exit (nat_lit 1)) (X36_1_1 xh0_0e3 xh0_1e3 xh0_2e3 xh0_3e3 sh1_0e3 lh1_1e3 lh1_2e3 sh1_3e3)) := by kernel_rfl
def t36c0x1c0x1 (Q : List V1 → List Ob → Prop) (p0 : K.ty k59) (p1 : K.ty (K.slice (46 : TypeId) k45)) (p2 : K.ty k45) (xh0_0e3 : Int) (xh0_1e3 : Int) (xh0_2e3 : Int) (xh0_3e3 : Int) (sh1_0e3 : ByteArray) (lh1_1e3 : List (K.ty k74)) (lh1_2e3 : List (K.ty k76)) (sh1_3e3 : ByteArray) (sh0_0e11 : ByteArray) (lh0_1e11 : List (K.ty k74)) (lh0_2e11 : List (K.ty k76)) (sh0_3e11 : ByteArray) : Prop :=
  brP (ByteArray.toList sh0_3e11 != ByteArray.toList (ByteArray.mk #[])) (brP (!isName sh0_3e11) (Q [V1.one (Lf.int IntKind.i64 (6 : Int))] []) (Q [V1.one (Lf.int IntKind.i64 (0 : Int))] [])) (Q [V1.one (Lf.int IntKind.i64 (0 : Int))] [])
theorem t36c0x1c0x1_mono {Q : List V1 → List Ob → Prop} {Q' : List V1 → List Ob → Prop} (hq : ∀ r h, Q r h → Q' r h) (p0 : K.ty k59) (p1 : K.ty (K.slice (46 : TypeId) k45)) (p2 : K.ty k45) (xh0_0e3 : Int) (xh0_1e3 : Int) (xh0_2e3 : Int) (xh0_3e3 : Int) (sh1_0e3 : ByteArray) (lh1_1e3 : List (K.ty k74)) (lh1_2e3 : List (K.ty k76)) (sh1_3e3 : ByteArray) (sh0_0e11 : ByteArray) (lh0_1e11 : List (K.ty k74)) (lh0_2e11 : List (K.ty k76)) (sh0_3e11 : ByteArray) :
    t36c0x1c0x1 Q p0 p1 p2 xh0_0e3 xh0_1e3 xh0_2e3 xh0_3e3 sh1_0e3 lh1_1e3 lh1_2e3 sh1_3e3 sh0_0e11 lh0_1e11 lh0_2e11 sh0_3e11 → t36c0x1c0x1 Q' p0 p1 p2 xh0_0e3 xh0_1e3 xh0_2e3 xh0_3e3 sh1_0e3 lh1_1e3 lh1_2e3 sh1_3e3 sh0_0e11 lh0_1e11 lh0_2e11 sh0_3e11 :=
  brM (brM (hq _ _) (hq _ _)) (hq _ _)
theorem t36c0x1c0x1_eq (Q : List V1 → List Ob → Prop) (p0 : K.ty k59) (p1 : K.ty (K.slice (46 : TypeId) k45)) (p2 : K.ty k45) (xh0_0e3 : Int) (xh0_1e3 : Int) (xh0_2e3 : Int) (xh0_3e3 : Int) (sh1_0e3 : ByteArray) (lh1_1e3 : List (K.ty k74)) (lh1_2e3 : List (K.ty k76)) (sh1_3e3 : ByteArray) (sh0_0e11 : ByteArray) (lh0_1e11 : List (K.ty k74)) (lh0_2e11 : List (K.ty k76)) (sh0_3e11 : ByteArray) :
    t36c0x1c0x1 Q p0 p1 p2 xh0_0e3 xh0_1e3 xh0_2e3 xh0_3e3 sh1_0e3 lh1_1e3 lh1_2e3 sh1_3e3 sh0_0e11 lh0_1e11 lh0_2e11 sh0_3e11 = ((blkC (3 : Nat) (seqC (awp tt E36 A36 (Code.b (Code.b (Code.b (Code.b (Code.b (Code.b (Func.code Try.f36))))))) (0 : Nat)) (topC tt Try.f36 0 Q))) (Ex.exit (nat_lit 3)) (X36_3_1 sh0_0e11 lh0_1e11 lh0_2e11 sh0_3e11)) := by kernel_rfl
def t36c0x1c0x0 (Q : List V1 → List Ob → Prop) (p0 : K.ty k59) (p1 : K.ty (K.slice (46 : TypeId) k45)) (p2 : K.ty k45) (xh0_0e3 : Int) (xh0_1e3 : Int) (xh0_2e3 : Int) (xh0_3e3 : Int) (sh1_0e3 : ByteArray) (lh1_1e3 : List (K.ty k74)) (lh1_2e3 : List (K.ty k76)) (sh1_3e3 : ByteArray) (x6e11 : Int) : Prop :=
  Q [V1.one (Lf.int IntKind.i64 x6e11)] []
theorem t36c0x1c0x0_mono {Q : List V1 → List Ob → Prop} {Q' : List V1 → List Ob → Prop} (hq : ∀ r h, Q r h → Q' r h) (p0 : K.ty k59) (p1 : K.ty (K.slice (46 : TypeId) k45)) (p2 : K.ty k45) (xh0_0e3 : Int) (xh0_1e3 : Int) (xh0_2e3 : Int) (xh0_3e3 : Int) (sh1_0e3 : ByteArray) (lh1_1e3 : List (K.ty k74)) (lh1_2e3 : List (K.ty k76)) (sh1_3e3 : ByteArray) (x6e11 : Int) :
    t36c0x1c0x0 Q p0 p1 p2 xh0_0e3 xh0_1e3 xh0_2e3 xh0_3e3 sh1_0e3 lh1_1e3 lh1_2e3 sh1_3e3 x6e11 → t36c0x1c0x0 Q' p0 p1 p2 xh0_0e3 xh0_1e3 xh0_2e3 xh0_3e3 sh1_0e3 lh1_1e3 lh1_2e3 sh1_3e3 x6e11 :=
  hq _ _
theorem t36c0x1c0x0_eq (Q : List V1 → List Ob → Prop) (p0 : K.ty k59) (p1 : K.ty (K.slice (46 : TypeId) k45)) (p2 : K.ty k45) (xh0_0e3 : Int) (xh0_1e3 : Int) (xh0_2e3 : Int) (xh0_3e3 : Int) (sh1_0e3 : ByteArray) (lh1_1e3 : List (K.ty k74)) (lh1_2e3 : List (K.ty k76)) (sh1_3e3 : ByteArray) (x6e11 : Int) :
    t36c0x1c0x0 Q p0 p1 p2 xh0_0e3 xh0_1e3 xh0_2e3 xh0_3e3 sh1_0e3 lh1_1e3 lh1_2e3 sh1_3e3 x6e11 = ((blkC (3 : Nat) (seqC (awp tt E36 A36 (Code.b (Code.b (Code.b (Code.b (Code.b (Code.b (Func.code Try.f36))))))) (0 : Nat)) (topC tt Try.f36 0 Q))) (Ex.ret) (X36_3_0 x6e11)) := by kernel_rfl
def t36c0x0 (Q : List V1 → List Ob → Prop) (p0 : K.ty k59) (p1 : K.ty (K.slice (46 : TypeId) k45)) (p2 : K.ty k45) (x6e3 : Int) : Prop :=
  Q [V1.one (Lf.int IntKind.i64 x6e3)] []
theorem t36c0x0_mono {Q : List V1 → List Ob → Prop} {Q' : List V1 → List Ob → Prop} (hq : ∀ r h, Q r h → Q' r h) (p0 : K.ty k59) (p1 : K.ty (K.slice (46 : TypeId) k45)) (p2 : K.ty k45) (x6e3 : Int) :
    t36c0x0 Q p0 p1 p2 x6e3 → t36c0x0 Q' p0 p1 p2 x6e3 :=
  hq _ _
theorem t36c0x0_eq (Q : List V1 → List Ob → Prop) (p0 : K.ty k59) (p1 : K.ty (K.slice (46 : TypeId) k45)) (p2 : K.ty k45) (x6e3 : Int) :
    t36c0x0 Q p0 p1 p2 x6e3 = ((blkC (1 : Nat) (seqC (awp tt E36 A36 (Code.b (Code.b (Code.b (Code.b (Func.code Try.f36))))) (0 : Nat)) (topC tt Try.f36 0 Q))) (Ex.ret) (X36_1_0 x6e3)) := by kernel_rfl
def H36 (Q : List V1 → List Ob → Prop) (p0 : K.ty k59) (p1 : K.ty (K.slice (46 : TypeId) k45)) (p2 : K.ty k45) : Prop := t36 Q (fun p0 p1 p2 => ∃ m, G36_1 (fun x6e3 => t36c0x0 Q p0 p1 p2 x6e3) (fun xh0_0e3 xh0_1e3 xh0_2e3 xh0_3e3 sh1_0e3 lh1_1e3 lh1_2e3 sh1_3e3 => t36c0x1 Q (fun p0 p1 p2 xh0_0e3 xh0_1e3 xh0_2e3 xh0_3e3 sh1_0e3 lh1_1e3 lh1_2e3 sh1_3e3 => ∃ m, G36_3 (fun x6e11 => t36c0x1c0x0 Q p0 p1 p2 xh0_0e3 xh0_1e3 xh0_2e3 xh0_3e3 sh1_0e3 lh1_1e3 lh1_2e3 sh1_3e3 x6e11) (fun sh0_0e11 lh0_1e11 lh0_2e11 sh0_3e11 => t36c0x1c0x1 Q p0 p1 p2 xh0_0e3 xh0_1e3 xh0_2e3 xh0_3e3 sh1_0e3 lh1_1e3 lh1_2e3 sh1_3e3 sh0_0e11 lh0_1e11 lh0_2e11 sh0_3e11) m (lh1_2e3) ((↑(List.length lh1_2e3) : Int)) ((0 : Int)) (xh0_0e3) (xh0_1e3) (xh0_2e3) (xh0_3e3) (sh1_0e3) (lh1_1e3) (lh1_2e3) (sh1_3e3)) p0 p1 p2 xh0_0e3 xh0_1e3 xh0_2e3 xh0_3e3 sh1_0e3 lh1_1e3 lh1_2e3 sh1_3e3) m (p2.snd.fst) ((↑(List.length p2.snd.fst) : Int)) ((0 : Int)) (p0.fst) (p0.snd.fst) (p0.snd.snd.fst) (p0.snd.snd.snd) (p2.fst) (p2.snd.fst) (p2.snd.snd.fst) (p2.snd.snd.snd)) (fun p0 p1 p2 => ∃ m, G36_1 (fun x6e3 => t36c1x0 Q p0 p1 p2 x6e3) (fun xh0_0e3 xh0_1e3 xh0_2e3 xh0_3e3 sh1_0e3 lh1_1e3 lh1_2e3 sh1_3e3 => t36c1x1 Q (fun p0 p1 p2 xh0_0e3 xh0_1e3 xh0_2e3 xh0_3e3 sh1_0e3 lh1_1e3 lh1_2e3 sh1_3e3 => ∃ m, G36_3 (fun x6e11 => t36c1x1c0x0 Q p0 p1 p2 xh0_0e3 xh0_1e3 xh0_2e3 xh0_3e3 sh1_0e3 lh1_1e3 lh1_2e3 sh1_3e3 x6e11) (fun sh0_0e11 lh0_1e11 lh0_2e11 sh0_3e11 => t36c1x1c0x1 Q p0 p1 p2 xh0_0e3 xh0_1e3 xh0_2e3 xh0_3e3 sh1_0e3 lh1_1e3 lh1_2e3 sh1_3e3 sh0_0e11 lh0_1e11 lh0_2e11 sh0_3e11) m (lh1_2e3) ((↑(List.length lh1_2e3) : Int)) ((0 : Int)) (xh0_0e3) (xh0_1e3) (xh0_2e3) (xh0_3e3) (sh1_0e3) (lh1_1e3) (lh1_2e3) (sh1_3e3)) p0 p1 p2 xh0_0e3 xh0_1e3 xh0_2e3 xh0_3e3 sh1_0e3 lh1_1e3 lh1_2e3 sh1_3e3) m (p2.snd.fst) ((↑(List.length p2.snd.fst) : Int)) ((0 : Int)) (p0.fst) (p0.snd.fst) (p0.snd.snd.fst) (p0.snd.snd.snd) (p2.fst) (p2.snd.fst) (p2.snd.snd.fst) (p2.snd.snd.snd)) p0 p1 p2
theorem ok36 (Q : List V1 → List Ob → Prop) (p0 : K.ty k59) (p1 : K.ty (K.slice (46 : TypeId) k45)) (p2 : K.ty k45) (h : H36 Q p0 p1 p2) : Of (afun tt E36 A36 Try.f36 (I36 p0 p1 p2) [] Q) :=
  kcO (t36_eq Q p0 p1 p2) (t36_mono (fun _ _ h => h) (fun p0 p1 p2 ⟨m, h⟩ => ⟨m, (T36_1 _ (fun x6e3 h => kcO (t36c0x0_eq _ _ _ _ _) (t36c0x0_mono (fun _ _ h => h) _ _ _ _ h)) (fun xh0_0e3 xh0_1e3 xh0_2e3 xh0_3e3 sh1_0e3 lh1_1e3 lh1_2e3 sh1_3e3 h => kcO (t36c0x1_eq _ _ _ _ _ _ _ _ _ _ _ _) (t36c0x1_mono (fun _ _ h => h) (fun p0 p1 p2 xh0_0e3 xh0_1e3 xh0_2e3 xh0_3e3 sh1_0e3 lh1_1e3 lh1_2e3 sh1_3e3 ⟨m, h⟩ => ⟨m, (T36_3 _ (fun x6e11 h => kcO (t36c0x1c0x0_eq _ _ _ _ _ _ _ _ _ _ _ _ _) (t36c0x1c0x0_mono (fun _ _ h => h) _ _ _ _ _ _ _ _ _ _ _ _ h)) (fun sh0_0e11 lh0_1e11 lh0_2e11 sh0_3e11 h => kcO (t36c0x1c0x1_eq _ _ _ _ _ _ _ _ _ _ _ _ _ _ _ _) (t36c0x1c0x1_mono (fun _ _ h => h) _ _ _ _ _ _ _ _ _ _ _ _ _ _ _ h)) m _ _ _ _ _ _ _ _ _ _ _ h).out⟩) _ _ _ _ _ _ _ _ _ _ _ h)) m _ _ _ _ _ _ _ _ _ _ _ h).out⟩) (fun p0 p1 p2 ⟨m, h⟩ => ⟨m, (T36_1 _ (fun x6e3 h => kcO (t36c1x0_eq _ _ _ _ _) (t36c1x0_mono (fun _ _ h => h) _ _ _ _ h)) (fun xh0_0e3 xh0_1e3 xh0_2e3 xh0_3e3 sh1_0e3 lh1_1e3 lh1_2e3 sh1_3e3 h => kcO (t36c1x1_eq _ _ _ _ _ _ _ _ _ _ _ _) (t36c1x1_mono (fun _ _ h => h) (fun p0 p1 p2 xh0_0e3 xh0_1e3 xh0_2e3 xh0_3e3 sh1_0e3 lh1_1e3 lh1_2e3 sh1_3e3 ⟨m, h⟩ => ⟨m, (T36_3 _ (fun x6e11 h => kcO (t36c1x1c0x0_eq _ _ _ _ _ _ _ _ _ _ _ _ _) (t36c1x1c0x0_mono (fun _ _ h => h) _ _ _ _ _ _ _ _ _ _ _ _ h)) (fun sh0_0e11 lh0_1e11 lh0_2e11 sh0_3e11 h => kcO (t36c1x1c0x1_eq _ _ _ _ _ _ _ _ _ _ _ _ _ _ _ _) (t36c1x1c0x1_mono (fun _ _ h => h) _ _ _ _ _ _ _ _ _ _ _ _ _ _ _ h)) m _ _ _ _ _ _ _ _ _ _ _ h).out⟩) _ _ _ _ _ _ _ _ _ _ _ h)) m _ _ _ _ _ _ _ _ _ _ _ h).out⟩) p0 p1 p2 h)
theorem env36 : EnvOk Try.prog E36 := .cons spec37 (by kernel_rfl) <| .cons spec53 (by kernel_rfl) <| .cons spec54 (by kernel_rfl) <| .cons spec55 (by kernel_rfl) <| .nil
theorem loop36a (l : List Con) (s : k59.ty) (x1 : ByteArray) (x2 : List Con) (x3 : List Coi) (x4 : ByteArray) (R0 : Int → Prop) (R1 : Int → Int → Int → Int → ByteArray → List Con → List Coi → ByteArray → Prop) (hl : l.length ≤ 1000000) :
    ∀ n (i : Nat), l.length - i < n → i ≤ l.length → (consE s (l.drop i) ≠ 0 → R0 (consE s (l.drop i))) → (consE s (l.drop i) = 0 → R1 s.1 s.2.1 s.2.2.1 s.2.2.2 x1 x2 x3 x4) →
      G36_1 R0 R1 n l l.length i s.1 s.2.1 s.2.2.1 s.2.2.2 x1 x2 x3 x4 := by
  intro n
  induction n with
  | zero => intro i h; omega
  | succ n ih =>
    intro i hn hi h0 h1
    refine brP_intro (fun c => ?_) (fun c => ?_)
    · have c : i < l.length := by simpa using c
      rw [getE_cons k74 l i c] at h0 h1
      simp only [consE] at h0 h1
      refine ⟨⟨by omega, by omega⟩, ?_⟩
      refine brP_intro (fun d => ?_) (fun d => ?_)
      · have d : (partE s (getE k74 l i).1 (getE k74 l i).2.1 != 0) = true := d
        simp only [d, cond_true] at h0
        exact h0 (by simpa using d)
      have d : (partE s (getE k74 l i).1 (getE k74 l i).2.1 != 0) = false := d
      simp only [d, cond_false] at h0 h1
      refine brP_intro (fun e => ?_) (fun e => ?_)
      · simp only [e, cond_true] at h0; exact h0 (by decide)
      simp only [e, cond_false] at h0 h1
      refine brP_intro (fun f => ?_) (fun f => ?_)
      · simp only [f, cond_true] at h0; exact h0 (by decide)
      simp only [f, cond_false] at h0 h1
      rw [wrap_in (by omega) (by omega)]
      exact ih (i + 1) (by omega) (by omega) h0 h1
    · have c : ¬ i < l.length := by simpa using c
      rw [List.drop_of_length_le (by omega)] at h1
      exact h1 rfl
theorem loop36b (l : List Coi) (s : k59.ty) (x1 : ByteArray) (x2 : List Con) (x3 : List Coi) (x4 : ByteArray) (R0 : Int → Prop) (R1 : ByteArray → List Con → List Coi → ByteArray → Prop) (hl : l.length ≤ 1000000) :
    ∀ n (i : Nat), l.length - i < n → i ≤ l.length → (coisE s (l.drop i) ≠ 0 → R0 (coisE s (l.drop i))) → (coisE s (l.drop i) = 0 → R1 x1 x2 x3 x4) →
      G36_3 R0 R1 n l l.length i s.1 s.2.1 s.2.2.1 s.2.2.2 x1 x2 x3 x4 := by
  intro n
  induction n with
  | zero => intro i h; omega
  | succ n ih =>
    intro i hn hi h0 h1
    refine brP_intro (fun c => ?_) (fun c => ?_)
    · have c : i < l.length := by simpa using c
      rw [getE_cons k76 l i c] at h0 h1
      simp only [coisE] at h0 h1
      refine ⟨⟨by omega, by omega⟩, ?_⟩
      refine brP_intro (fun d => ?_) (fun d => ?_)
      · have d : (partE s (getE k76 l i).1 (getE k76 l i).2 != 0) = true := d
        simp only [d, cond_true] at h0
        exact h0 (by simpa using d)
      have d : (partE s (getE k76 l i).1 (getE k76 l i).2 != 0) = false := d
      simp only [d, cond_false] at h0 h1
      refine brP_intro (fun e => ?_) (fun e => ?_)
      · simp only [e, cond_true] at h0; exact h0 (by decide)
      simp only [e, cond_false] at h0 h1
      rw [wrap_in (by omega) (by omega)]
      exact ih (i + 1) (by omega) (by omega) h0 h1
    · have c : ¬ i < l.length := by simpa using c
      rw [List.drop_of_length_le (by omega)] at h1
      exact h1 rfl
theorem tail36 (s : k59.ty) (r : Rung) (Q : QT) (h : Q [.one (.int .i64 (rungE2 s r))] []) (hc : decide ((r.contacts.length : Int) > 256) = false) :
    ∃ m, G36_1 (fun x => Q [.one (.int .i64 x)] []) (fun a b c d sh lh1 lh2 sh3 => brP (decide ((lh2.length : Int) > 16)) (Q [.one (.int .i64 10)] [])
      (∃ m, G36_3 (fun x => Q [.one (.int .i64 x)] []) (fun _ _ _ sh3 => brP (ByteArray.toList sh3 != ByteArray.toList (ByteArray.mk #[])) (brP (!isName sh3) (Q [.one (.int .i64 6)] []) (Q [.one (.int .i64 0)] [])) (Q [.one (.int .i64 0)] [])) m lh2 lh2.length 0 a b c d sh lh1 lh2 sh3))
      m r.contacts r.contacts.length 0 s.1 s.2.1 s.2.2.1 s.2.2.2 r.label r.contacts r.coils r.jump := by
  have hc : ¬ (r.contacts.length : Int) > 256 := by simpa using hc
  have hc' : decide (r.contacts.length > 256) = false := by simp; omega
  unfold rungE2 at h
  simp only [hc', cond_false] at h
  refine ⟨r.contacts.length + 1, loop36a r.contacts s _ _ _ _ _ _ (by omega) _ 0 (by omega) (by omega) (fun h0 => ?_) (fun h0 => ?_)⟩
  · rw [List.drop_zero] at h0 ⊢
    have e : (consE s r.contacts != 0) = true := by simpa using h0
    simp only [e, cond_true] at h
    exact h
  · rw [List.drop_zero] at h0
    have e : (consE s r.contacts != 0) = false := by simpa using h0
    simp only [e, cond_false] at h
    refine brP_intro (fun d => ?_) (fun d => ?_)
    · have d : decide (r.coils.length > 16) = true := by simp at d ⊢; omega
      simp only [d, cond_true] at h; exact h
    have d' : decide (r.coils.length > 16) = false := by simp at d ⊢; omega
    simp only [d', cond_false] at h
    simp at d
    refine ⟨r.coils.length + 1, loop36b r.coils s _ _ _ _ _ _ (by omega) _ 0 (by omega) (by omega) (fun h0 => ?_) (fun h0 => ?_)⟩
    · rw [List.drop_zero] at h0 ⊢
      have e : (coisE s r.coils != 0) = true := by simpa using h0
      simp only [e, cond_true] at h
      exact h
    · rw [List.drop_zero] at h0
      have e : (coisE s r.coils != 0) = false := by simpa using h0
      simp only [e, cond_false] at h
      have hb : (ByteArray.toList r.jump != ByteArray.toList (ByteArray.mk #[])) = !decide (r.jump = str0) := by rw [bne, strEq]
      refine brP_intro (fun f => ?_) (fun f => ?_)
      · rw [hb] at f
        simp only [f, Bool.true_and] at h
        exact brP_intro (fun g => by simpa only [g, cond_true] using h) (fun g => by simpa only [g, cond_false] using h)
      · rw [hb] at f
        simpa only [f, Bool.false_and, cond_false] using h
theorem spec36 : SpecOk Try.prog 36 sp36 := S3.ok tt_ok mixed env36 Try.func36 fun s ahead r Q h => ok36 Q s ahead r <| by
  obtain ⟨hl, h⟩ := h
  unfold rungE at h
  have hb : (ByteArray.toList r.fst != ByteArray.toList (ByteArray.mk #[])) = !decide (Rung.label r = str0) := by rw [bne, strEq]
  have tl : decide (((Rung.contacts r).length : Int) > 256) = true → Q [.one (.int .i64 (rungE2 s r))] [] → Q [.one (.int .i64 10)] [] := fun c h => by
    have c : decide ((Rung.contacts r).length > 256) = true := by simp at c ⊢; omega
    unfold rungE2 at h; simpa only [c, cond_true] using h
  refine brP_intro (fun c => ?_) (fun c => ?_)
  · rw [hb] at c
    simp only [c, Bool.true_and] at h
    refine brP_intro (fun d => ?_) (fun d => ⟨hl, ?_⟩)
    · have d : (!isName (Rung.label r)) = true := d
      simpa only [d, cond_true] using h
    have d : (!isName (Rung.label r)) = false := d
    simp only [d, cond_false] at h
    refine brP_intro (fun e => ?_) (fun e => ?_)
    · have e : decide (0 ≤ idxP (fun x => decide (Rung.label x = (Rung.label r))) ahead 0) = true := e
      simpa only [e, cond_true] using h
    have e : decide (0 ≤ idxP (fun x => decide (Rung.label x = (Rung.label r))) ahead 0) = false := e
    simp only [e, cond_false] at h
    exact brP_intro (fun f => tl f h) (fun f => tail36 s r Q h f)
  · rw [hb] at c
    simp only [c, Bool.false_and, cond_false] at h
    exact brP_intro (fun f => tl f h) (fun f => tail36 s r Q h f)
end Go.AM
