/- Functions of the program: a rung's coils. Conditions: none. -/
import Derived.Test.YtlfelhdcokadbaaB5
set_option linter.all false
namespace Go.AM
open Go.Proofs
def A45 : Ann := [(0, [2, 6, 8, 18, 19, 20], [6, 8], [6, 7])]
def E45 : Env := [(25, sp25s), (60, sp60), (61, sp61)]
def I45 (p0 : (k45 : K).ty) (p1 : (k26 : K).ty) (p2 : (.bool : K).ty) : List V1 := [nfK k45 p0, nfK k26 p1, nfK .bool p2]
noncomputable def L45_0 : Code := Code.a (Code.a (Code.b (Code.a (Code.b (Code.b (Func.code Try.f45))))))
def S45_0 (b2 : Bool) (l18 : List (K.ty k76)) (x19 : Int) (x20 : Int) (lh1_0 : List (K.ty K.bool)) (lh1_1 : List (K.ty K.bool)) (lh1_2 : List (K.ty K.bool)) : St := sp (56 : Nat) [((2 : Nat), V.v (V1.one (Lf.bool b2))), ((6 : Nat), V.v (V1.one (Lf.ptr (nat_lit 0) (nat_lit 0)))), ((8 : Nat), V.v (V1.one (Lf.ptr (nat_lit 1) (nat_lit 0)))), ((18 : Nat), V.v (V1.one (Lf.sl (77 : TypeId) k76 l18))), ((19 : Nat), V.v (V1.one (Lf.int IntKind.i64 x19))), ((20 : Nat), V.v (V1.one (Lf.int IntKind.i64 x20)))] [Ob.box (27 : Nat) [Lf.nils, Lf.nils, Lf.nils], Ob.box (27 : Nat) [Lf.sl (4 : TypeId) K.bool lh1_0, Lf.sl (4 : TypeId) K.bool lh1_1, Lf.sl (4 : TypeId) K.bool lh1_2]]
def X45_0_0 (x7 : Int) : St := sp (56 : Nat) [((6 : Nat), V.v (V1.one (Lf.ptr (nat_lit 0) (nat_lit 0)))), ((7 : Nat), V.v (V1.one (Lf.int IntKind.i64 x7)))] [Ob.box (27 : Nat) [Lf.nils, Lf.nils, Lf.nils]]
def X45_0_1 (lh1_0 : List (K.ty K.bool)) (lh1_1 : List (K.ty K.bool)) (lh1_2 : List (K.ty K.bool)) : St := sp (56 : Nat) [((6 : Nat), V.v (V1.one (Lf.ptr (nat_lit 0) (nat_lit 0)))), ((8 : Nat), V.v (V1.one (Lf.ptr (nat_lit 1) (nat_lit 0))))] [Ob.box (27 : Nat) [Lf.nils, Lf.nils, Lf.nils], Ob.box (27 : Nat) [Lf.sl (4 : TypeId) K.bool lh1_0, Lf.sl (4 : TypeId) K.bool lh1_1, Lf.sl (4 : TypeId) K.bool lh1_2]]
def t45_0 (again : Bool → List (K.ty k76) → Int → Int → List (K.ty K.bool) → List (K.ty K.bool) → List (K.ty K.bool) → Prop) (R0 : Int → Prop) (R1 : List (K.ty K.bool) → List (K.ty K.bool) → List (K.ty K.bool) → Prop) (b2 : Bool) (l18 : List (K.ty k76)) (x19 : Int) (x20 : Int) (lh1_0 : List (K.ty K.bool)) (lh1_1 : List (K.ty K.bool)) (lh1_2 : List (K.ty K.bool)) : Prop :=
  brP (decide (x20 < x19)) (bound x20 (List.length l18) ∧ brP (decide ((getE k76 l18 x20).fst < (0 : Int))) (R0 (8 : Int)) (brP (decide ((getE k76 l18 x20).fst ≥ (4 : Int))) (R0 (8 : Int)) (bound (getE k76 l18 x20).fst (4 : Nat) ∧ small (lh1_0, lh1_1, lh1_2) ∧ brP ((writeS (lh1_0, lh1_1, lh1_2) (getE k76 l18 x20).snd (writes (getE k76 l18 x20).fst b2).fst).snd != (0 : Int)) (R0 (writeS (lh1_0, lh1_1, lh1_2) (getE k76 l18 x20).snd (writes (getE k76 l18 x20).fst b2).fst).snd) (brP (writes (getE k76 l18 x20).fst b2).snd (again b2 l18 x19 (IntKind.wrap IntKind.i64 (x20 + (1 : Int))) (writeS (lh1_0, lh1_1, lh1_2) (getE k76 l18 x20).snd (writes (getE k76 l18 x20).fst b2).fst).fst.fst (writeS (lh1_0, lh1_1, lh1_2) (getE k76 l18 x20).snd (writes (getE k76 l18 x20).fst b2).fst).fst.snd.fst (writeS (lh1_0, lh1_1, lh1_2) (getE k76 l18 x20).snd (writes (getE k76 l18 x20).fst b2).fst).fst.snd.snd) (again b2 l18 x19 (IntKind.wrap IntKind.i64 (x20 + (1 : Int))) lh1_0 lh1_1 lh1_2))))) (R1 lh1_0 lh1_1 lh1_2)
theorem t45_0_mono {again : Bool → List (K.ty k76) → Int → Int → List (K.ty K.bool) → List (K.ty K.bool) → List (K.ty K.bool) → Prop} {R0 : Int → Prop} {R1 : List (K.ty K.bool) → List (K.ty K.bool) → List (K.ty K.bool) → Prop} {again' : Bool → List (K.ty k76) → Int → Int → List (K.ty K.bool) → List (K.ty K.bool) → List (K.ty K.bool) → Prop} {R0' : Int → Prop} {R1' : List (K.ty K.bool) → List (K.ty K.bool) → List (K.ty K.bool) → Prop} (ha : ∀ b2 l18 x19 x20 lh1_0 lh1_1 lh1_2, again b2 l18 x19 x20 lh1_0 lh1_1 lh1_2 → again' b2 l18 x19 x20 lh1_0 lh1_1 lh1_2) (hr0 : ∀ x7, R0 x7 → R0' x7) (hr1 : ∀ lh1_0 lh1_1 lh1_2, R1 lh1_0 lh1_1 lh1_2 → R1' lh1_0 lh1_1 lh1_2) (b2 : Bool) (l18 : List (K.ty k76)) (x19 : Int) (x20 : Int) (lh1_0 : List (K.ty K.bool)) (lh1_1 : List (K.ty K.bool)) (lh1_2 : List (K.ty K.bool)) :
    t45_0 again R0 R1 b2 l18 x19 x20 lh1_0 lh1_1 lh1_2 → t45_0 again' R0' R1' b2 l18 x19 x20 lh1_0 lh1_1 lh1_2 :=
  brM (andM (id) (brM (hr0 _) (brM (hr0 _) (andM (id) (andM (id) (brM (hr0 _) (brM (ha _ _ _ _ _ _ _) (ha _ _ _ _ _ _ _)))))))) (hr1 _ _ _)
theorem t45_0_eq (n : Nat) (Q : Ex → St → Prop) (b2 : Bool) (l18 : List (K.ty k76)) (x19 : Int) (x20 : Int) (lh1_0 : List (K.ty K.bool)) (lh1_1 : List (K.ty K.bool)) (lh1_2 : List (K.ty K.bool)) :
    t45_0 (fun b2 l18 x19 x20 lh1_0 lh1_1 lh1_2 => loopP (awp tt E45 A45 L45_0 0) ([(2 : Nat), (6 : Nat), (8 : Nat), (18 : Nat), (19 : Nat), (20 : Nat)], [(6 : Nat), (8 : Nat)], [(6 : Nat), (7 : Nat)]) n (S45_0 b2 l18 x19 x20 lh1_0 lh1_1 lh1_2) Q) (fun x7 => Q (Ex.ret) (X45_0_0 x7)) (fun lh1_0 lh1_1 lh1_2 => Q (Ex.exit (nat_lit 0)) (X45_0_1 lh1_0 lh1_1 lh1_2)) b2 l18 x19 x20 lh1_0 lh1_1 lh1_2 = (loopP (awp tt E45 A45 L45_0 0) ([(2 : Nat), (6 : Nat), (8 : Nat), (18 : Nat), (19 : Nat), (20 : Nat)], [(6 : Nat), (8 : Nat)], [(6 : Nat), (7 : Nat)]) (n + 1) (S45_0 b2 l18 x19 x20 lh1_0 lh1_1 lh1_2) Q) := by kernel_rfl
def G45_0 (R0 : Int → Prop) (R1 : List (K.ty K.bool) → List (K.ty K.bool) → List (K.ty K.bool) → Prop) : Nat → Bool → List (K.ty k76) → Int → Int → List (K.ty K.bool) → List (K.ty K.bool) → List (K.ty K.bool) → Prop
  | 0, _, _, _, _, _, _, _ => False
  | n + 1, b2, l18, x19, x20, lh1_0, lh1_1, lh1_2 => t45_0 (G45_0 R0 R1 n) R0 R1 b2 l18 x19 x20 lh1_0 lh1_1 lh1_2
theorem T45_0 {R0 : Int → Prop} {R1 : List (K.ty K.bool) → List (K.ty K.bool) → List (K.ty K.bool) → Prop} (Q : Ex → St → Prop) (hr0 : ∀ x7, R0 x7 → Of (Q (Ex.ret) (X45_0_0 x7))) (hr1 : ∀ lh1_0 lh1_1 lh1_2, R1 lh1_0 lh1_1 lh1_2 → Of (Q (Ex.exit (nat_lit 0)) (X45_0_1 lh1_0 lh1_1 lh1_2))) : ∀ (n : Nat) (b2 : Bool) (l18 : List (K.ty k76)) (x19 : Int) (x20 : Int) (lh1_0 : List (K.ty K.bool)) (lh1_1 : List (K.ty K.bool)) (lh1_2 : List (K.ty K.bool)), G45_0 R0 R1 n b2 l18 x19 x20 lh1_0 lh1_1 lh1_2 → Of (loopP (awp tt E45 A45 L45_0 0) ([(2 : Nat), (6 : Nat), (8 : Nat), (18 : Nat), (19 : Nat), (20 : Nat)], [(6 : Nat), (8 : Nat)], [(6 : Nat), (7 : Nat)]) n (S45_0 b2 l18 x19 x20 lh1_0 lh1_1 lh1_2) Q) := by
  intro n
  induction n with
  | zero => intro b2 l18 x19 x20 lh1_0 lh1_1 lh1_2 h; exact h.elim
  | succ n ih =>
    intro b2 l18 x19 x20 lh1_0 lh1_1 lh1_2 h
    exact kcO (t45_0_eq n Q b2 l18 x19 x20 lh1_0 lh1_1 lh1_2) (t45_0_mono (fun _ _ _ _ _ _ _ h => (ih _ _ _ _ _ _ _ h).out) (fun _ h => (hr0 _ h).out) (fun _ _ _ h => (hr1 _ _ _ h).out) b2 l18 x19 x20 lh1_0 lh1_1 lh1_2 h)
def t45 (Q : List V1 → List Ob → Prop) (lp0 : K.ty k45 → K.ty k26 → K.ty K.bool → Prop) (p0 : K.ty k45) (p1 : K.ty k26) (p2 : K.ty K.bool) : Prop :=
  small p1 ∧ lp0 p0 p1 p2
theorem t45_mono {Q : List V1 → List Ob → Prop} {Q' : List V1 → List Ob → Prop} {lp0 : K.ty k45 → K.ty k26 → K.ty K.bool → Prop} {lp0' : K.ty k45 → K.ty k26 → K.ty K.bool → Prop} (hq : ∀ r h, Q r h → Q' r h) (hlp0 : ∀ p0 p1 p2, lp0 p0 p1 p2 → lp0' p0 p1 p2) (p0 : K.ty k45) (p1 : K.ty k26) (p2 : K.ty K.bool) :
    t45 Q lp0 p0 p1 p2 → t45 Q' lp0' p0 p1 p2 :=
  andM (id) (hlp0 _ _ _)
theorem t45_eq (Q : List V1 → List Ob → Prop) (p0 : K.ty k45) (p1 : K.ty k26) (p2 : K.ty K.bool) :
    t45 Q (fun p0 p1 p2 => ∃ m, loopP (awp tt E45 A45 L45_0 0) ([(2 : Nat), (6 : Nat), (8 : Nat), (18 : Nat), (19 : Nat), (20 : Nat)], [(6 : Nat), (8 : Nat)], [(6 : Nat), (7 : Nat)]) m (S45_0 (p2) (p0.snd.snd.fst) ((↑(List.length p0.snd.snd.fst) : Int)) ((0 : Int)) (p1.fst) (p1.snd.fst) (p1.snd.snd)) (blkC (0 : Nat) (seqC (awp tt E45 A45 (Code.b (Code.b (Code.b (Func.code Try.f45)))) (0 : Nat)) (topC tt Try.f45 0 Q)))) p0 p1 p2 = (afun tt E45 A45 Try.f45 (I45 p0 p1 p2) [] Q) := by kernel_rfl
def t45c0x1 (Q : List V1 → List Ob → Prop) (p0 : K.ty k45) (p1 : K.ty k26) (p2 : K.ty K.bool) (lh1_0e3 : List (K.ty K.bool)) (lh1_1e3 : List (K.ty K.bool)) (lh1_2e3 : List (K.ty K.bool)) : Prop :=
  Q [V1.agg [Lf.sl (4 : TypeId) K.bool lh1_0e3, Lf.sl (4 : TypeId) K.bool lh1_1e3, Lf.sl (4 : TypeId) K.bool lh1_2e3], V1.one (Lf.int IntKind.i64 (0 : Int))] []
theorem t45c0x1_mono {Q : List V1 → List Ob → Prop} {Q' : List V1 → List Ob → Prop} (hq : ∀ r h, Q r h → Q' r h) (p0 : K.ty k45) (p1 : K.ty k26) (p2 : K.ty K.bool) (lh1_0e3 : List (K.ty K.bool)) (lh1_1e3 : List (K.ty K.bool)) (lh1_2e3 : List (K.ty K.bool)) :
    t45c0x1 Q p0 p1 p2 lh1_0e3 lh1_1e3 lh1_2e3 → t45c0x1 Q' p0 p1 p2 lh1_0e3 lh1_1e3 lh1_2e3 :=
  hq _ _
theorem t45c0x1_eq (Q : List V1 → List Ob → Prop) (p0 : K.ty k45) (p1 : K.ty k26) (p2 : K.ty K.bool) (lh1_0e3 : List (K.ty K.bool)) (lh1_1e3 : List (K.ty K.bool)) (lh1_2e3 : List (K.ty K.bool)) :
    t45c0x1 Q p0 p1 p2 lh1_0e3 lh1_1e3 lh1_2e3 = ((blkC (0 : Nat) (seqC (awp tt E45 A45 (Code.b (Code.b (Code.b (Func.code Try.f45)))) (0 : Nat)) (topC tt Try.f45 0 Q))) (Ex.exit (nat_lit 0)) (X45_0_1 lh1_0e3 lh1_1e3 lh1_2e3)) := by kernel_rfl
def t45c0x0 (Q : List V1 → List Ob → Prop) (p0 : K.ty k45) (p1 : K.ty k26) (p2 : K.ty K.bool) (x7e3 : Int) : Prop :=
  Q [V1.agg [Lf.nils, Lf.nils, Lf.nils], V1.one (Lf.int IntKind.i64 x7e3)] []
theorem t45c0x0_mono {Q : List V1 → List Ob → Prop} {Q' : List V1 → List Ob → Prop} (hq : ∀ r h, Q r h → Q' r h) (p0 : K.ty k45) (p1 : K.ty k26) (p2 : K.ty K.bool) (x7e3 : Int) :
    t45c0x0 Q p0 p1 p2 x7e3 → t45c0x0 Q' p0 p1 p2 x7e3 :=
  hq _ _
theorem t45c0x0_eq (Q : List V1 → List Ob → Prop) (p0 : K.ty k45) (p1 : K.ty k26) (p2 : K.ty K.bool) (x7e3 : Int) :
    t45c0x0 Q p0 p1 p2 x7e3 = ((blkC (0 : Nat) (seqC (awp tt E45 A45 (Code.b (Code.b (Code.b (Func.code Try.f45)))) (0 : Nat)) (topC tt Try.f45 0 Q))) (Ex.ret) (X45_0_0 x7e3)) := by kernel_rfl
def H45 (Q : List V1 → List Ob → Prop) (p0 : K.ty k45) (p1 : K.ty k26) (p2 : K.ty K.bool) : Prop := t45 Q (fun p0 p1 p2 => ∃ m, G45_0 (fun x7e3 => t45c0x0 Q p0 p1 p2 x7e3) (fun lh1_0e3 lh1_1e3 lh1_2e3 => t45c0x1 Q p0 p1 p2 lh1_0e3 lh1_1e3 lh1_2e3) m (p2) (p0.snd.snd.fst) ((↑(List.length p0.snd.snd.fst) : Int)) ((0 : Int)) (p1.fst) (p1.snd.fst) (p1.snd.snd)) p0 p1 p2
theorem ok45 (Q : List V1 → List Ob → Prop) (p0 : K.ty k45) (p1 : K.ty k26) (p2 : K.ty K.bool) (h : H45 Q p0 p1 p2) : Of (afun tt E45 A45 Try.f45 (I45 p0 p1 p2) [] Q) :=
  kcO (t45_eq Q p0 p1 p2) (t45_mono (fun _ _ h => h) (fun p0 p1 p2 ⟨m, h⟩ => ⟨m, (T45_0 _ (fun x7e3 h => kcO (t45c0x0_eq _ _ _ _ _) (t45c0x0_mono (fun _ _ h => h) _ _ _ _ h)) (fun lh1_0e3 lh1_1e3 lh1_2e3 h => kcO (t45c0x1_eq _ _ _ _ _ _ _) (t45c0x1_mono (fun _ _ h => h) _ _ _ _ _ _ h)) m _ _ _ _ _ _ _ h).out⟩) p0 p1 p2 h)
theorem env45 : EnvOk Try.prog E45 := .cons spec25s (by kernel_rfl) <| .cons spec60 (by kernel_rfl) <| .cons spec61 (by kernel_rfl) <| .nil
theorem setI_len (l : List Bool) (n : Int) (v : Bool) : (setI l n v).1.length ≤ l.length := by
  unfold setI; cases isIn l.length n <;> simp
theorem small_zero : small zeroS := ⟨by simp, by simp, by simp⟩
theorem small_write {s : Sta} (h : small s) (a : k72.ty) (v : Bool) : small (writeS s a v).1 := by
  have h1 := setI_len s.1 a.2 v
  have h2 := setI_len s.2.1 a.2 v
  unfold writeS
  cases a.1 == 1 <;> cases (setI s.1 a.2 v).2 != 0 <;> cases a.1 == 2 <;> cases (setI s.2.1 a.2 v).2 != 0 <;>
    simp only [cond_true, cond_false] <;> first | exact small_zero | exact ⟨Nat.le_trans h1 h.1, h.2.1, h.2.2⟩ | exact ⟨h.1, Nat.le_trans h2 h.2.1, h.2.2⟩
theorem loop45 (on : Bool) (cs : List Coi) (R0 : Int → Prop) (R1 : List Bool → List Bool → List Bool → Prop) (hl : cs.length ≤ 1000000) :
    ∀ n k (i : Nat) (s : Sta), k < n → i + k = cs.length → small s →
      ((coilGo on (cs.drop i) s).2 ≠ 0 → R0 (coilGo on (cs.drop i) s).2) →
      ((coilGo on (cs.drop i) s).2 = 0 → R1 (coilGo on (cs.drop i) s).1.1 (coilGo on (cs.drop i) s).1.2.1 (coilGo on (cs.drop i) s).1.2.2) →
      G45_0 R0 R1 n on cs cs.length i s.1 s.2.1 s.2.2 := by
  intro n
  induction n with
  | zero => intro k i s h; omega
  | succ n ih =>
    intro k i s hk hi hs h0 h1
    refine brP_intro (fun d => ?_) (fun d => ?_)
    · have d : i < cs.length := by simpa using d
      cases k with
      | zero => omega
      | succ k =>
        rw [getE_cons k76 cs i d] at h0 h1
        simp only [coilGo] at h0 h1
        refine ⟨⟨by omega, by omega⟩, ?_⟩
        refine brP_intro (fun a => ?_) (fun a => ?_)
        · simp only [a, cond_true] at h0; exact h0 (by decide)
        refine brP_intro (fun b => ?_) (fun b => ?_)
        · simp only [a, b, cond_true, cond_false] at h0; exact h0 (by decide)
        simp only [a, b, cond_false] at h0 h1
        have hkind : bound (getE k76 cs i).1 4 := by
          have a' : ¬ (getE k76 cs i).1 < (0 : Int) := by simpa using a
          have b' : ¬ (getE k76 cs i).1 ≥ (4 : Int) := by simpa using b
          exact ⟨Int.not_lt.1 a', Int.not_le.1 b'⟩
        refine ⟨hkind, hs, ?_⟩
        refine brP_intro (fun c => ?_) (fun c => ?_)
        · have c : ((writeS s (getE k76 cs i).2 (writes (getE k76 cs i).1 on).1).2 != 0) = true := c
          simp only [c, cond_true] at h0; exact h0 (by simpa using c)
        have c : ((writeS s (getE k76 cs i).2 (writes (getE k76 cs i).1 on).1).2 != 0) = false := c
        simp only [c, cond_false] at h0 h1
        have hw : IntKind.i64.wrap ((i : Int) + 1) = ((i + 1 : Nat) : Int) := by rw [wrap_in (by omega) (by omega)]; omega
        rw [hw]
        refine brP_intro (fun f => ?_) (fun f => ?_)
        · simp only [f, cond_true] at h0 h1
          exact ih k (i + 1) (writeS s (getE k76 cs i).2 (writes (getE k76 cs i).1 on).1).1 (by omega) (by omega) (small_write hs _ _) h0 h1
        · simp only [f, cond_false] at h0 h1
          exact ih k (i + 1) s (by omega) (by omega) hs h0 h1
    · have d : ¬ i < cs.length := by simpa using d
      obtain rfl : k = 0 := by omega
      rw [List.drop_of_length_le (by omega)] at h1
      exact h1 rfl
theorem coilGo_zero (on : Bool) : ∀ (cs : List Coi) (s : Sta), (coilGo on cs s).2 ≠ 0 → (coilGo on cs s).1 = zeroS
  | [], s, h => absurd rfl h
  | c :: r, s, h => by
    simp only [coilGo] at h ⊢
    cases h1 : decide (c.1 < 0) with
    | true => simp only [h1, cond_true]
    | false =>
      cases h2 : decide (c.1 ≥ 4) with
      | true => simp only [h1, h2, cond_true, cond_false]
      | false =>
        cases h3 : (writeS s c.2 (writes c.1 on).1).2 != 0 with
        | true => simp only [h1, h2, h3, cond_true, cond_false]
        | false =>
          simp only [h1, h2, h3, cond_false] at h ⊢
          exact coilGo_zero on r _ h
theorem spec45 : SpecOk Try.prog 45 sp45 := S3.okS tt_ok mixed [k26, ki] env45 Try.func45 fun (r : Rung) (st : Sta) (on : Bool) Q h => ok45 _ r st on <| by
  obtain ⟨⟨hs, hl⟩, h⟩ := h
  have hlen := loop45 on r.coils (fun x => t45c0x0 (SQ [k26, ki] Q) r st on x) (fun a b c => t45c0x1 (SQ [k26, ki] Q) r st on a b c) hl (r.coils.length + 1) r.coils.length 0 st
    (by omega) (by omega) hs (fun h0 => ?_) (fun h0 => ?_)
  · exact ⟨hs, _, hlen⟩
  · rw [List.drop_zero] at h0 ⊢
    rw [coilGo_zero on _ _ h0] at h
    exact h
  · rw [List.drop_zero] at h0 ⊢
    rw [h0] at h
    exact h
end Go.AM
