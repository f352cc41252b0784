/- Functions of the program: what the laws let in. Conditions: none. -/
import Derived.Test.YtlfelhdcokadbaaD2
set_option linter.all false
namespace Go.AM
open Go.Proofs
-- f20 "busbar/busbarlaw03.TooLarge" ['48'] -> ['3']
def A20 : Ann := [(0, [5, 6, 7], [], [2])]
def E20 : Env := []
def I20 (p0 : ((.slice 27 k26) : K).ty) : List V1 := [nfK (.slice 27 k26) p0]
noncomputable def L20_0 : Code := Code.a (Code.a (Code.b (Code.a (Code.b (Func.code Try.f20)))))
def S20_0 (l5 : List (K.ty k26)) (x6 : Int) (x7 : Int) : St := sp (28 : Nat) [((5 : Nat), V.v (V1.one (Lf.sl (27 : TypeId) k26 l5))), ((6 : Nat), V.v (V1.one (Lf.int IntKind.i64 x6))), ((7 : Nat), V.v (V1.one (Lf.int IntKind.i64 x7)))] []
def X20_0_0 (x2 : Int) : St := sp (28 : Nat) [((2 : Nat), V.v (V1.one (Lf.int IntKind.i64 x2)))] []
def X20_0_1 : St := sp (28 : Nat) [] []
def t20_0 (again : List (K.ty k26) → Int → Int → Prop) (R0 : Int → Prop) (R1 : Prop) (l5 : List (K.ty k26)) (x6 : Int) (x7 : Int) : Prop :=
  brP (decide (x7 < x6)) (bound x7 (List.length l5) ∧ brP (decide ((↑(List.length (getE k26 l5 x7).fst) : Int) > (1000 : Int))) (R0 (1 : Int)) (brP (decide ((↑(List.length (getE k26 l5 x7).snd.fst) : Int) > (1000 : Int))) (R0 (1 : Int)) (brP (decide ((↑(List.length (getE k26 l5 x7).snd.snd) : Int) > (1000 : Int))) (R0 (1 : Int)) (again l5 x6 (IntKind.wrap IntKind.i64 (x7 + (1 : Int))))))) R1
theorem t20_0_mono {again : List (K.ty k26) → Int → Int → Prop} {R0 : Int → Prop} {R1 : Prop} {again' : List (K.ty k26) → Int → Int → Prop} {R0' : Int → Prop} {R1' : Prop} (ha : ∀ l5 x6 x7, again l5 x6 x7 → again' l5 x6 x7) (hr0 : ∀ x2, R0 x2 → R0' x2) (hr1 :  R1 → R1') (l5 : List (K.ty k26)) (x6 : Int) (x7 : Int) :
    t20_0 again R0 R1 l5 x6 x7 → t20_0 again' R0' R1' l5 x6 x7 :=
  brM (andM (id) (brM (hr0 _) (brM (hr0 _) (brM (hr0 _) (ha _ _ _))))) (hr1)
theorem t20_0_eq (n : Nat) (Q : Ex → St → Prop) (l5 : List (K.ty k26)) (x6 : Int) (x7 : Int) :
    t20_0 (fun l5 x6 x7 => loopP (awp tt E20 A20 L20_0 0) ([(5 : Nat), (6 : Nat), (7 : Nat)], [], [(2 : Nat)]) n (S20_0 l5 x6 x7) Q) (fun x2 => Q (Ex.ret) (X20_0_0 x2)) ( Q (Ex.exit (nat_lit 0)) (X20_0_1)) l5 x6 x7 = (loopP (awp tt E20 A20 L20_0 0) ([(5 : Nat), (6 : Nat), (7 : Nat)], [], [(2 : Nat)]) (n + 1) (S20_0 l5 x6 x7) Q) := by kernel_rfl
def G20_0 (R0 : Int → Prop) (R1 : Prop) : Nat → List (K.ty k26) → Int → Int → Prop
  | 0, _, _, _ => False
  | n + 1, l5, x6, x7 => t20_0 (G20_0 R0 R1 n) R0 R1 l5 x6 x7
theorem T20_0 {R0 : Int → Prop} {R1 : Prop} (Q : Ex → St → Prop) (hr0 : ∀ x2, R0 x2 → Of (Q (Ex.ret) (X20_0_0 x2))) (hr1 :  R1 → Of (Q (Ex.exit (nat_lit 0)) (X20_0_1))) : ∀ (n : Nat) (l5 : List (K.ty k26)) (x6 : Int) (x7 : Int), G20_0 R0 R1 n l5 x6 x7 → Of (loopP (awp tt E20 A20 L20_0 0) ([(5 : Nat), (6 : Nat), (7 : Nat)], [], [(2 : Nat)]) n (S20_0 l5 x6 x7) Q) := by
  intro n
  induction n with
  | zero => intro l5 x6 x7 h; exact h.elim
  | succ n ih =>
    intro l5 x6 x7 h
    exact kcO (t20_0_eq n Q l5 x6 x7) (t20_0_mono (fun _ _ _ h => (ih _ _ _ h).out) (fun _ h => (hr0 _ h).out) (fun h => (hr1 h).out) l5 x6 x7 h)
def t20 (Q : List V1 → List Ob → Prop) (lp0 : K.ty (K.slice (27 : TypeId) k26) → Prop) (p0 : K.ty (K.slice (27 : TypeId) k26)) : Prop :=
  lp0 p0
theorem t20_mono {Q : List V1 → List Ob → Prop} {Q' : List V1 → List Ob → Prop} {lp0 : K.ty (K.slice (27 : TypeId) k26) → Prop} {lp0' : K.ty (K.slice (27 : TypeId) k26) → Prop} (hq : ∀ r h, Q r h → Q' r h) (hlp0 : ∀ p0, lp0 p0 → lp0' p0) (p0 : K.ty (K.slice (27 : TypeId) k26)) :
    t20 Q lp0 p0 → t20 Q' lp0' p0 :=
  hlp0 _
theorem t20_eq (Q : List V1 → List Ob → Prop) (p0 : K.ty (K.slice (27 : TypeId) k26)) :
    t20 Q (fun p0 => ∃ m, loopP (awp tt E20 A20 L20_0 0) ([(5 : Nat), (6 : Nat), (7 : Nat)], [], [(2 : Nat)]) m (S20_0 (p0) ((↑(List.length p0) : Int)) ((0 : Int))) (blkC (0 : Nat) (seqC (awp tt E20 A20 (Code.b (Code.b (Func.code Try.f20))) (0 : Nat)) (topC tt Try.f20 0 Q)))) p0 = (afun tt E20 A20 Try.f20 (I20 p0) [] Q) := by kernel_rfl
def t20c0x1 (Q : List V1 → List Ob → Prop) (p0 : K.ty (K.slice (27 : TypeId) k26)) : Prop :=
  Q [V1.one (Lf.int IntKind.i64 (0 : Int))] []
theorem t20c0x1_mono {Q : List V1 → List Ob → Prop} {Q' : List V1 → List Ob → Prop} (hq : ∀ r h, Q r h → Q' r h) (p0 : K.ty (K.slice (27 : TypeId) k26)) :
    t20c0x1 Q p0 → t20c0x1 Q' p0 :=
  hq _ _
theorem t20c0x1_eq (Q : List V1 → List Ob → Prop) (p0 : K.ty (K.slice (27 : TypeId) k26)) :
    t20c0x1 Q p0 = ((blkC (0 : Nat) (seqC (awp tt E20 A20 (Code.b (Code.b (Func.code Try.f20))) (0 : Nat)) (topC tt Try.f20 0 Q))) (Ex.exit (nat_lit 0)) (X20_0_1)) := by kernel_rfl
def t20c0x0 (Q : List V1 → List Ob → Prop) (p0 : K.ty (K.slice (27 : TypeId) k26)) (x2e1 : Int) : Prop :=
  Q [V1.one (Lf.int IntKind.i64 x2e1)] []
theorem t20c0x0_mono {Q : List V1 → List Ob → Prop} {Q' : List V1 → List Ob → Prop} (hq : ∀ r h, Q r h → Q' r h) (p0 : K.ty (K.slice (27 : TypeId) k26)) (x2e1 : Int) :
    t20c0x0 Q p0 x2e1 → t20c0x0 Q' p0 x2e1 :=
  hq _ _
theorem t20c0x0_eq (Q : List V1 → List Ob → Prop) (p0 : K.ty (K.slice (27 : TypeId) k26)) (x2e1 : Int) :
    t20c0x0 Q p0 x2e1 = ((blkC (0 : Nat) (seqC (awp tt E20 A20 (Code.b (Code.b (Func.code Try.f20))) (0 : Nat)) (topC tt Try.f20 0 Q))) (Ex.ret) (X20_0_0 x2e1)) := by kernel_rfl
def H20 (Q : List V1 → List Ob → Prop) (p0 : K.ty (K.slice (27 : TypeId) k26)) : Prop := t20 Q (fun p0 => ∃ m, G20_0 (fun x2e1 => t20c0x0 Q p0 x2e1) ( t20c0x1 Q p0) m (p0) ((↑(List.length p0) : Int)) ((0 : Int))) p0
theorem ok20 (Q : List V1 → List Ob → Prop) (p0 : K.ty (K.slice (27 : TypeId) k26)) (h : H20 Q p0) : Of (afun tt E20 A20 Try.f20 (I20 p0) [] Q) :=
  kcO (t20_eq Q p0) (t20_mono (fun _ _ h => h) (fun p0 ⟨m, h⟩ => ⟨m, (T20_0 _ (fun x2e1 h => kcO (t20c0x0_eq _ _ _) (t20c0x0_mono (fun _ _ h => h) _ _ h)) (fun h => kcO (t20c0x1_eq _ _) (t20c0x1_mono (fun _ _ h => h) _ h)) m _ _ _ h).out⟩) p0 h)
theorem env20 : EnvOk Try.prog E20 := .nil
theorem loop20 (l : List Sta) (R0 : Int → Prop) (R1 : Prop) (hl : l.length ≤ 1000000) : ∀ n (i : Nat), l.length - i < n → i ≤ l.length → ((l.drop i).any bigS = true → R0 1) → ((l.drop i).any bigS = false → R1) → G20_0 R0 R1 n l l.length i := by
  intro n
  induction n with
  | zero => intro i h; omega
  | succ n ih =>
    intro i hn hi h0 h1
    refine brP_intro (fun c => ?_) (fun c => ?_)
    · have c : i < l.length := by simpa using c
      rw [getE_cons k26 l i c, List.any_cons] at h0 h1
      refine ⟨⟨by omega, by omega⟩, ?_⟩
      refine brP_intro (fun d => h0 (by unfold bigS; rw [d]; rfl)) (fun d => ?_)
      refine brP_intro (fun e => h0 (by unfold bigS; rw [d, e]; rfl)) (fun e => ?_)
      refine brP_intro (fun f => h0 (by unfold bigS; rw [d, e, f]; rfl)) (fun f => ?_)
      have hb : bigS (getE k26 l i) = false := by unfold bigS; rw [d, e, f]; rfl
      rw [hb, Bool.false_or] at h0 h1
      rw [wrap_in (by omega) (by omega)]
      exact ih (i + 1) (by omega) (by omega) h0 h1
    · have c : ¬ i < l.length := by simpa using c
      rw [List.drop_of_length_le (by omega)] at h1
      exact h1 rfl
theorem spec20 : SpecOk Try.prog 20 sp20 := S1.ok tt_ok mixed env20 Try.func20 fun (l : List Sta) Q h => ok20 Q l <| by
  obtain ⟨hl, h⟩ := h
  refine ⟨l.length + 1, loop20 l _ _ hl _ 0 (by omega) (by omega) (fun e => ?_) (fun e => ?_)⟩
  · rw [List.drop_zero] at e
    rw [e] at h; exact h
  · rw [List.drop_zero] at e
    rw [e] at h; exact h
end Go.AM
