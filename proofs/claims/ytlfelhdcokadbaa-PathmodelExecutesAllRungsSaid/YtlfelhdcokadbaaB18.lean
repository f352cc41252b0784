/- Functions of the program: what the laws let in. Conditions: none. -/
import Derived.Test.YtlfelhdcokadbaaD2
import Derived.Test.YtlfelhdcokadbaaB17
set_option linter.all false
namespace Go.AM
open Go.Proofs
-- f21 "busbar/busbarlaw17.TooLarge" ['24'] -> ['3']
def A21 : Ann := [(0, [1, 3, 7, 8, 9], [1, 3], [2])]
def E21 : Env := [(33, sp33)]
def I21 (p0 : (k23 : K).ty) : List V1 := [nfK k23 p0]
noncomputable def L21_0 : Code := Code.a (Code.a (Code.b (Code.a (Code.b (Code.b (Func.code Try.f21))))))
def S21_0 (x3 : Int) (l7 : List (K.ty k45)) (x8 : Int) (x9 : Int) (xh0_0 : Int) (xh0_1 : Int) (xh0_2 : Int) (lh0_3 : List (K.ty k45)) : St := sp (27 : Nat) [((1 : Nat), V.v (V1.one (Lf.ptr (nat_lit 0) (nat_lit 0)))), ((3 : Nat), V.v (V1.one (Lf.int IntKind.i64 x3))), ((7 : Nat), V.v (V1.one (Lf.sl (46 : TypeId) k45 l7))), ((8 : Nat), V.v (V1.one (Lf.int IntKind.i64 x8))), ((9 : Nat), V.v (V1.one (Lf.int IntKind.i64 x9)))] [Ob.box (24 : Nat) [Lf.int IntKind.i64 xh0_0, Lf.int IntKind.i64 xh0_1, Lf.int IntKind.i64 xh0_2, Lf.sl (46 : TypeId) k45 lh0_3]]
def X21_0_0 (x2 : Int) : St := sp (27 : Nat) [((2 : Nat), V.v (V1.one (Lf.int IntKind.i64 x2)))] []
def X21_0_1 (x3 : Int) (xh0_0 : Int) (xh0_1 : Int) (xh0_2 : Int) (lh0_3 : List (K.ty k45)) : St := sp (27 : Nat) [((1 : Nat), V.v (V1.one (Lf.ptr (nat_lit 0) (nat_lit 0)))), ((3 : Nat), V.v (V1.one (Lf.int IntKind.i64 x3)))] [Ob.box (24 : Nat) [Lf.int IntKind.i64 xh0_0, Lf.int IntKind.i64 xh0_1, Lf.int IntKind.i64 xh0_2, Lf.sl (46 : TypeId) k45 lh0_3]]
def t21_0 (again : Int → List (K.ty k45) → Int → Int → Int → Int → Int → List (K.ty k45) → Prop) (R0 : Int → Prop) (R1 : Int → Int → Int → Int → List (K.ty k45) → Prop) (x3 : Int) (l7 : List (K.ty k45)) (x8 : Int) (x9 : Int) (xh0_0 : Int) (xh0_1 : Int) (xh0_2 : Int) (lh0_3 : List (K.ty k45)) : Prop :=
  brP (decide (x9 < x8)) (bound x9 (List.length l7) ∧ brP (decide ((↑(List.length (getE k45 l7 x9).snd.fst) : Int) > (40 : Int))) (R0 (1 : Int)) (again (IntKind.wrap IntKind.i64 (x3 + (↑(List.length (getE k45 l7 x9).snd.fst) : Int))) l7 x8 (IntKind.wrap IntKind.i64 (x9 + (1 : Int))) xh0_0 xh0_1 xh0_2 lh0_3)) (R1 x3 xh0_0 xh0_1 xh0_2 lh0_3)
theorem t21_0_mono {again : Int → List (K.ty k45) → Int → Int → Int → Int → Int → List (K.ty k45) → Prop} {R0 : Int → Prop} {R1 : Int → Int → Int → Int → List (K.ty k45) → Prop} {again' : Int → List (K.ty k45) → Int → Int → Int → Int → Int → List (K.ty k45) → Prop} {R0' : Int → Prop} {R1' : Int → Int → Int → Int → List (K.ty k45) → Prop} (ha : ∀ x3 l7 x8 x9 xh0_0 xh0_1 xh0_2 lh0_3, again x3 l7 x8 x9 xh0_0 xh0_1 xh0_2 lh0_3 → again' x3 l7 x8 x9 xh0_0 xh0_1 xh0_2 lh0_3) (hr0 : ∀ x2, R0 x2 → R0' x2) (hr1 : ∀ x3 xh0_0 xh0_1 xh0_2 lh0_3, R1 x3 xh0_0 xh0_1 xh0_2 lh0_3 → R1' x3 xh0_0 xh0_1 xh0_2 lh0_3) (x3 : Int) (l7 : List (K.ty k45)) (x8 : Int) (x9 : Int) (xh0_0 : Int) (xh0_1 : Int) (xh0_2 : Int) (lh0_3 : List (K.ty k45)) :
    t21_0 again R0 R1 x3 l7 x8 x9 xh0_0 xh0_1 xh0_2 lh0_3 → t21_0 again' R0' R1' x3 l7 x8 x9 xh0_0 xh0_1 xh0_2 lh0_3 :=
  brM (andM (id) (brM (hr0 _) (ha _ _ _ _ _ _ _ _))) (hr1 _ _ _ _ _)
theorem t21_0_eq (n : Nat) (Q : Ex → St → Prop) (x3 : Int) (l7 : List (K.ty k45)) (x8 : Int) (x9 : Int) (xh0_0 : Int) (xh0_1 : Int) (xh0_2 : Int) (lh0_3 : List (K.ty k45)) :
    t21_0 (fun x3 l7 x8 x9 xh0_0 xh0_1 xh0_2 lh0_3 => loopP (awp tt E21 A21 L21_0 0) ([(1 : Nat), (3 : Nat), (7 : Nat), (8 : Nat), (9 : Nat)], [(1 : Nat), (3 : Nat)], [(2 : Nat)]) n (S21_0 x3 l7 x8 x9 xh0_0 xh0_1 xh0_2 lh0_3) Q) (fun x2 => Q (Ex.ret) (X21_0_0 x2)) (fun x3 xh0_0 xh0_1 xh0_2 lh0_3 => Q (Ex.exit (nat_lit 0)) (X21_0_1 x3 xh0_0 xh0_1 xh0_2 lh0_3)) x3 l7 x8 x9 xh0_0 xh0_1 xh0_2 lh0_3 = (loopP (awp tt E21 A21 L21_0 0) ([(1 : Nat), (3 : Nat), (7 : Nat), (8 : Nat), (9 : Nat)], [(1 : Nat), (3 : Nat)], [(2 : Nat)]) (n + 1) (S21_0 x3 l7 x8 x9 xh0_0 xh0_1 xh0_2 lh0_3) Q) := by kernel_rfl
def G21_0 (R0 : Int → Prop) (R1 : Int → Int → Int → Int → List (K.ty k45) → Prop) : Nat → Int → List (K.ty k45) → Int → Int → Int → Int → Int → List (K.ty k45) → Prop
  | 0, _, _, _, _, _, _, _, _ => False
  | n + 1, x3, l7, x8, x9, xh0_0, xh0_1, xh0_2, lh0_3 => t21_0 (G21_0 R0 R1 n) R0 R1 x3 l7 x8 x9 xh0_0 xh0_1 xh0_2 lh0_3
theorem T21_0 {R0 : Int → Prop} {R1 : Int → Int → Int → Int → List (K.ty k45) → Prop} (Q : Ex → St → Prop) (hr0 : ∀ x2, R0 x2 → Of (Q (Ex.ret) (X21_0_0 x2))) (hr1 : ∀ x3 xh0_0 xh0_1 xh0_2 lh0_3, R1 x3 xh0_0 xh0_1 xh0_2 lh0_3 → Of (Q (Ex.exit (nat_lit 0)) (X21_0_1 x3 xh0_0 xh0_1 xh0_2 lh0_3))) : ∀ (n : Nat) (x3 : Int) (l7 : List (K.ty k45)) (x8 : Int) (x9 : Int) (xh0_0 : Int) (xh0_1 : Int) (xh0_2 : Int) (lh0_3 : List (K.ty k45)), G21_0 R0 R1 n x3 l7 x8 x9 xh0_0 xh0_1 xh0_2 lh0_3 → Of (loopP (awp tt E21 A21 L21_0 0) ([(1 : Nat), (3 : Nat), (7 : Nat), (8 : Nat), (9 : Nat)], [(1 : Nat), (3 : Nat)], [(2 : Nat)]) n (S21_0 x3 l7 x8 x9 xh0_0 xh0_1 xh0_2 lh0_3) Q) := by
  intro n
  induction n with
  | zero => intro x3 l7 x8 x9 xh0_0 xh0_1 xh0_2 lh0_3 h; exact h.elim
  | succ n ih =>
    intro x3 l7 x8 x9 xh0_0 xh0_1 xh0_2 lh0_3 h
    exact kcO (t21_0_eq n Q x3 l7 x8 x9 xh0_0 xh0_1 xh0_2 lh0_3) (t21_0_mono (fun _ _ _ _ _ _ _ _ h => (ih _ _ _ _ _ _ _ _ h).out) (fun _ h => (hr0 _ h).out) (fun _ _ _ _ _ h => (hr1 _ _ _ _ _ h).out) x3 l7 x8 x9 xh0_0 xh0_1 xh0_2 lh0_3 h)
def t21 (Q : List V1 → List Ob → Prop) (lp0 : K.ty k23 → Prop) (p0 : K.ty k23) : Prop :=
  lp0 p0
theorem t21_mono {Q : List V1 → List Ob → Prop} {Q' : List V1 → List Ob → Prop} {lp0 : K.ty k23 → Prop} {lp0' : K.ty k23 → Prop} (hq : ∀ r h, Q r h → Q' r h) (hlp0 : ∀ p0, lp0 p0 → lp0' p0) (p0 : K.ty k23) :
    t21 Q lp0 p0 → t21 Q' lp0' p0 :=
  hlp0 _
theorem t21_eq (Q : List V1 → List Ob → Prop) (p0 : K.ty k23) :
    t21 Q (fun p0 => ∃ m, loopP (awp tt E21 A21 L21_0 0) ([(1 : Nat), (3 : Nat), (7 : Nat), (8 : Nat), (9 : Nat)], [(1 : Nat), (3 : Nat)], [(2 : Nat)]) m (S21_0 ((0 : Int)) (p0.snd.snd.snd) ((↑(List.length p0.snd.snd.snd) : Int)) ((0 : Int)) (p0.fst) (p0.snd.fst) (p0.snd.snd.fst) (p0.snd.snd.snd)) (blkC (0 : Nat) (seqC (awp tt E21 A21 (Code.b (Code.b (Code.b (Func.code Try.f21)))) (0 : Nat)) (topC tt Try.f21 0 Q)))) p0 = (afun tt E21 A21 Try.f21 (I21 p0) [] Q) := by kernel_rfl
def t21c0x1 (Q : List V1 → List Ob → Prop) (p0 : K.ty k23) (x3e1 : Int) (xh0_0e1 : Int) (xh0_1e1 : Int) (xh0_2e1 : Int) (lh0_3e1 : List (K.ty k45)) : Prop :=
  brP (decide (x3e1 > (200 : Int))) (Q [V1.one (Lf.int IntKind.i64 (1 : Int))] []) (wideL (xh0_0e1, xh0_1e1, xh0_2e1, lh0_3e1) ∧ ∀ (v6 : Int), isBit v6 → (v6 = (0 : Int) → List.length (Lad.rungs (xh0_0e1, xh0_1e1, xh0_2e1, lh0_3e1)) ≤ (70 : Nat)) → Q [V1.one (Lf.int IntKind.i64 v6)] [])
theorem t21c0x1_mono {Q : List V1 → List Ob → Prop} {Q' : List V1 → List Ob → Prop} (hq : ∀ r h, Q r h → Q' r h) (p0 : K.ty k23) (x3e1 : Int) (xh0_0e1 : Int) (xh0_1e1 : Int) (xh0_2e1 : Int) (lh0_3e1 : List (K.ty k45)) :
    t21c0x1 Q p0 x3e1 xh0_0e1 xh0_1e1 xh0_2e1 lh0_3e1 → t21c0x1 Q' p0 x3e1 xh0_0e1 xh0_1e1 xh0_2e1 lh0_3e1 :=
  brM (hq _ _) (andM (id) (fun hh x => ap (hh x) (fun hh x => ap (hh x) (fun hh x => ap (hh x) (hq _ _)))))
theorem t21c0x1_eq (Q : List V1 → List Ob → Prop) (p0 : K.ty k23) (x3e1 : Int) (xh0_0e1 : Int) (xh0_1e1 : Int) (xh0_2e1 : Int) (lh0_3e1 : List (K.ty k45)) :
    t21c0x1 Q p0 x3e1 xh0_0e1 xh0_1e1 xh0_2e1 lh0_3e1 = ((blkC (0 : Nat) (seqC (awp tt E21 A21 (Code.b (Code.b (Code.b (Func.code Try.f21)))) (0 : Nat)) (topC tt Try.f21 0 Q))) (Ex.exit (nat_lit 0)) (X21_0_1 x3e1 xh0_0e1 xh0_1e1 xh0_2e1 lh0_3e1)) := by kernel_rfl
def t21c0x0 (Q : List V1 → List Ob → Prop) (p0 : K.ty k23) (x2e1 : Int) : Prop :=
  Q [V1.one (Lf.int IntKind.i64 x2e1)] []
theorem t21c0x0_mono {Q : List V1 → List Ob → Prop} {Q' : List V1 → List Ob → Prop} (hq : ∀ r h, Q r h → Q' r h) (p0 : K.ty k23) (x2e1 : Int) :
    t21c0x0 Q p0 x2e1 → t21c0x0 Q' p0 x2e1 :=
  hq _ _
theorem t21c0x0_eq (Q : List V1 → List Ob → Prop) (p0 : K.ty k23) (x2e1 : Int) :
    t21c0x0 Q p0 x2e1 = ((blkC (0 : Nat) (seqC (awp tt E21 A21 (Code.b (Code.b (Code.b (Func.code Try.f21)))) (0 : Nat)) (topC tt Try.f21 0 Q))) (Ex.ret) (X21_0_0 x2e1)) := by kernel_rfl
def H21 (Q : List V1 → List Ob → Prop) (p0 : K.ty k23) : Prop := t21 Q (fun p0 => ∃ m, G21_0 (fun x2e1 => t21c0x0 Q p0 x2e1) (fun x3e1 xh0_0e1 xh0_1e1 xh0_2e1 lh0_3e1 => t21c0x1 Q p0 x3e1 xh0_0e1 xh0_1e1 xh0_2e1 lh0_3e1) m ((0 : Int)) (p0.snd.snd.snd) ((↑(List.length p0.snd.snd.snd) : Int)) ((0 : Int)) (p0.fst) (p0.snd.fst) (p0.snd.snd.fst) (p0.snd.snd.snd)) p0
theorem ok21 (Q : List V1 → List Ob → Prop) (p0 : K.ty k23) (h : H21 Q p0) : Of (afun tt E21 A21 Try.f21 (I21 p0) [] Q) :=
  kcO (t21_eq Q p0) (t21_mono (fun _ _ h => h) (fun p0 ⟨m, h⟩ => ⟨m, (T21_0 _ (fun x2e1 h => kcO (t21c0x0_eq _ _ _) (t21c0x0_mono (fun _ _ h => h) _ _ h)) (fun x3e1 xh0_0e1 xh0_1e1 xh0_2e1 lh0_3e1 h => kcO (t21c0x1_eq _ _ _ _ _ _ _) (t21c0x1_mono (fun _ _ h => h) _ _ _ _ _ _ h)) m _ _ _ _ _ _ _ _ h).out⟩) p0 h)
theorem env21 : EnvOk Try.prog E21 := .cons spec33 (by kernel_rfl) <| .nil
theorem loop21 (rs : List Rung) (a b c : Int) (R0 : Int → Prop) (R1 : Int → Int → Int → Int → List Rung → Prop) (hl : rs.length ≤ 4611686018427387904) (h0 : R0 1) (h : (∀ r ∈ rs, (Rung.contacts r).length ≤ 40) → ∀ x3, R1 x3 a b c rs) :
    ∀ n (i : Nat) (x3 : Int), rs.length - i < n → i ≤ rs.length → (∀ r ∈ rs.take i, (Rung.contacts r).length ≤ 40) → G21_0 R0 R1 n x3 rs rs.length i a b c rs := by
  intro n
  induction n with
  | zero => intro i x3 h; omega
  | succ n ih =>
    intro i x3 hn hi ha
    refine brP_intro (fun d => ?_) (fun d => ?_)
    · have d : i < rs.length := by simpa using d
      refine ⟨⟨by omega, by omega⟩, ?_⟩
      refine brP_intro (fun e => h0) (fun e => ?_)
      have e : ¬ ((Rung.contacts (getE k45 rs i)).length : Int) > 40 := by simpa using e
      rw [wrap_in (x := (i : Int) + 1) (by omega) (by omega)]
      refine ih (i + 1) _ (by omega) (by omega) fun r hr => ?_
      rw [List.take_succ_eq_append_getElem d] at hr
      rcases List.mem_append.1 hr with hr | hr
      · exact ha r hr
      · have hg : getE k45 rs i = rs[i] := by simp [getE, List.getD, d]
        rw [List.mem_singleton] at hr
        rw [hr, ← hg]
        omega
    · have d : ¬ i < rs.length := by simpa using d
      rw [List.take_of_length_le (by omega)] at ha
      exact h ha _
theorem spec21 : SpecOk Try.prog 21 sp21 := S1.ok tt_ok mixed env21 Try.func21 fun (l : Lad) Q h => ok21 Q l <| by
  obtain ⟨⟨h1, h2⟩, h⟩ := h
  refine ⟨(Lad.rungs l).length + 1, loop21 (Lad.rungs l) l.1 l.2.1 l.2.2.1 _ _ h1 (h 1 (.inr rfl) (fun e => by cases e)) (fun ha x => ?_) _ 0 0 (by omega) (by omega) (by simp)⟩
  refine brP_intro (fun d => h 1 (.inr rfl) (fun e => by cases e)) (fun d => ⟨⟨h1, h2⟩, fun v hv h70 => ?_⟩)
  exact h v hv fun e => ⟨h70 e, ha⟩
end Go.AM
