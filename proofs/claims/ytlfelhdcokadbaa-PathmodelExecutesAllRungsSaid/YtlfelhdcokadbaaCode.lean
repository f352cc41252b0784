/- The abstract machine: regions and code. Conditions: none. -/
import Derived.Test.YtlfelhdcokadbaaCall
set_option linter.all false
namespace Go.AM
open Go.RowKit
section
variable {P : Program} {T : TT} {E : Env} {w w' w0 : World} {B Ok0 Ok : Nat → Prop} {β : List Value} {ds : List Deferred}
theorem putK_eq (st : St) (t : Tmp) (v : V) (Q : St → Prop) : putK st (some t) v Q = Q ⟨st.slots.set t v, st.heap⟩ := by
  cases st; simp [putK, setK_eq]
def putS (st : St) (d : Option Tmp) (v : V) : St :=
  match d with
  | none => st
  | some t => ⟨st.slots.set t v, st.heap⟩
theorem putK_put (st : St) (d : Option Tmp) (v : V) (Q : St → Prop) : putK st d v Q = Q (putS st d v) := by
  cases d with
  | none => rfl
  | some t => exact putK_eq st t v Q
theorem Rel.put {st : St} {a : Act} (r : Rel B Ok0 w0 w Ok β st a.tmps.toList) (d : Option Tmp) {av : V} {v : Value} (hv : RelV w Ok β av v) : Rel B Ok0 w0 w Ok β (putS st d av) (a.put d v).tmps.toList := by
  cases d with
  | none => exact r
  | some t =>
    refine ⟨⟨r.s.h, ?_⟩, r.fr, r.wr, r.new, r.old⟩
    simp only [putS, Act.put, Array.toList_setIfInBounds]
    exact r.s.s.set t hv
theorem All2.set_left {α γ : Type} {R : α → γ → Prop} : ∀ {l : List α} {m : List γ} (i : Nat) {a : α} {b : γ}, All2 R l m → m[i]? = some b → R a b → All2 R (l.set i a) m
  | [], [], _, _, _, _, _, _ => trivial
  | _ :: _, _ :: _, 0, _, _, h, hb, hr => by simp at hb; subst hb; exact ⟨hr, h.2⟩
  | _ :: _, _ :: _, i + 1, _, _, h, hb, hr => ⟨h.1, All2.set_left i h.2 (by simpa using hb) hr⟩
/-- A temporary that is known to hold what it holds. -/
theorem Rel.know {st : St} {tm : List Value} (r : Rel B Ok0 w0 w Ok β st tm) {t : Tmp} {av : V} {v : Value} (ht : tm[t]? = some v) (hv : RelV w Ok β av v) : Rel B Ok0 w0 w Ok β ⟨st.slots.set t av, st.heap⟩ tm :=
  ⟨⟨r.s.h, r.s.s.set_left t ht hv⟩, r.fr, r.wr, r.new, r.old⟩
/-- What holds behind a step: a state of which Q holds. -/
def Post (ds : List Deferred) (B Ok0 : Nat → Prop) (w0 : World) (Q : St → Prop) (a : Act) (w : World) : Prop :=
  a.defers = ds ∧ ∃ st Ok β, Q st ∧ Rel B Ok0 w0 w Ok β st a.tmps.toList
theorem put_defers (a : Act) (d : Option Tmp) (v : Value) : (a.put d v).defers = a.defers := by cases d <;> rfl

/-- One operation of a region: what is known of it in the state at hand. -/
structure Step1 (ds : List Deferred) (P : Program) (ops : Array Oper) (o : Oper) (B Ok0 : Nat → Prop) (w0 : World) (Q : St → Prop) (a : Act) (w : World) : Prop where
  yes : Region.wanted o (yielded ops a.tmps) = true → Done P o a w fun v w' => (tame o = true → Grow w w') ∧ Post ds B Ok0 w0 Q (a.put o.dst v) w'
  no : Region.wanted o (yielded ops a.tmps) = false → Post ds B Ok0 w0 Q (a.put o.dst undef) w
  pure : isAct o = false → ∃ v, (Region.wanted o (yielded ops a.tmps) = true ∧ Pure1 P o a w v ∨ Region.wanted o (yielded ops a.tmps) = false ∧ v = undef) ∧ Post ds B Ok0 w0 Q (a.put o.dst v) w
theorem aop_step (hT : ttOk P T = true) (hE : EnvOk P E) (hB : ∀ g, B g → g < w0.heap.size) {ops : Array Oper} {o : Oper} {st : St} {a : Act} (hd : a.defers = ds) (r : Rel B Ok0 w0 w Ok β st a.tmps.toList) {Q : St → Prop}
    (hw : Region.wanted o (yielded ops a.tmps) = true) (h : aop T E o st fun v st => putK st o.dst v Q) : Step1 ds P ops o B Ok0 w0 Q a w := by
  refine ⟨fun _ => ?_, fun hn => (by rw [hw] at hn; cases hn), fun hact => ?_⟩
  · have hdone := aop_done hT hE hB r h
    have key : ∀ v w', Cond (tame o) a B Ok0 w0 w (fun v st => putK st o.dst v Q) v w' → (tame o = true → Grow w w') ∧ Post ds B Ok0 w0 Q (a.put o.dst v) w' := by
      rintro v w' ⟨h1, av, st', Ok', β', hq, hv, hr⟩
      rw [putK_put] at hq
      exact ⟨h1, by rw [put_defers]; exact hd, _, Ok', β', hq, hr.put o.dst hv⟩
    unfold Done at hdone ⊢
    split at hdone
    · exact key _ _ hdone
    · exact key _ _ hdone
    · refine Calls.mono hdone fun e w'' he => ?_
      cases e with
      | returned v => exact key _ _ he
      | panicked _ => exact he
      | outgrown => exact he
    · exact hdone.elim
  · obtain ⟨av, v, hq, hv, hp⟩ := aop_pure (E := E) hT hact r.s h
    rw [putK_put] at hq
    exact ⟨v, .inl ⟨hw, hp⟩, by rw [put_defers]; exact hd, _, Ok, β, hq, r.put o.dst hv⟩
theorem skip_step {ops : Array Oper} {o : Oper} {st : St} {a : Act} (hd : a.defers = ds) (r : Rel B Ok0 w0 w Ok β st a.tmps.toList) {Q : St → Prop}
    (hw : Region.wanted o (yielded ops a.tmps) = false) (h : putK st o.dst (.v (.one .skip)) Q) : Step1 ds P ops o B Ok0 w0 Q a w := by
  rw [putK_put] at h
  have hp : Post ds B Ok0 w0 Q (a.put o.dst undef) w := ⟨by rw [put_defers]; exact hd, _, Ok, β, h, r.put o.dst (av := .v (.one .skip)) rfl⟩
  exact ⟨fun hy => (by rw [hw] at hy; cases hy), fun _ => hp, fun _ => ⟨undef, .inr ⟨hw, rfl⟩, hp⟩⟩
theorem runK_step (hT : ttOk P T = true) (hE : EnvOk P E) (hB : ∀ g, B g → g < w0.heap.size) {ops : Array Oper} {o : Oper} {st : St} {a : Act} (hd : a.defers = ds) (r : Rel B Ok0 w0 w Ok β st a.tmps.toList) {Q : St → Prop}
    (h : runK T E ops.toList o st Q) : Step1 ds P ops o B Ok0 w0 Q a w := by
  unfold runK at h
  split at h
  · rename_i hg
    exact aop_step hT hE hB hd r (by simp [Region.wanted, hg]) h
  · rename_i g want hg
    obtain ⟨t, ht, h2⟩ := someK_iff h
    obtain ⟨v, hv, h3⟩ := getK_iff h2
    obtain ⟨b, hb, hr⟩ := r.s.s.get hv
    have hdst : (ops[g]?).bind (·.dst) = some t := by
      simp only [dstOf] at ht
      rw [Array.getElem?_toList] at ht
      exact ht
    have htm : a.tmps[t]? = some b := by simpa using hb
    have hwant : Region.wanted o (yielded ops a.tmps) = ((match b with | .bool x => some x | _ => none) == some want) := by
      simp only [Region.wanted, hg, yielded, hdst, Option.bind_some, htm]
      cases b <;> rfl
    clear h h2
    split at h3
    · rename_i d
      have hbv : b = .bool d := hr
      subst hbv
      cases d <;> cases want <;> simp only [brP, putK_eq] at h3
      · exact aop_step hT hE hB hd (r.know hb (av := .v (.one (.bool false))) rfl) (by rw [hwant]; rfl) h3
      · exact skip_step hd (r.know hb (av := .v (.one (.bool false))) rfl) (by rw [hwant]; rfl) (by rw [putK_put] at h3 ⊢; exact h3)
      · exact skip_step hd (r.know hb (av := .v (.one (.bool true))) rfl) (by rw [hwant]; rfl) (by rw [putK_put] at h3 ⊢; exact h3)
      · exact aop_step hT hE hB hd (r.know hb (av := .v (.one (.bool true))) rfl) (by rw [hwant]; rfl) h3
    · have hbv : b = undef := hr
      subst hbv
      exact skip_step hd r (by rw [hwant]; simp [undef]) h3
    · exact h3.elim
theorem Done.wp {o : Oper} {a : Act} {R : Value → World → Prop} {K : Act → World → Prop} {X : Exit → Act → World → Prop} (h : Done P o a w R) (hk : ∀ v w', R v w' → K (a.put o.dst v) w') : o.wp P a w K X := by
  unfold Done at h
  unfold Oper.wp
  generalize (execOp a.eval o).run P w = r at h
  cases r with
  | ok n w' =>
    cases n with
    | value v => exact hk v w' h
    | skip => exact hk undef w' h
    | enter f args =>
      refine Calls.mono h fun e w'' he => ?_
      cases e with
      | returned v => exact hk v w'' he
      | panicked _ => exact he.elim
      | outgrown => exact he.elim
    | _ => exact h.elim
  | halt _ _ => exact h.elim
/-- Exits. -/
def PostX (ds : List Deferred) (B Ok0 : Nat → Prop) (w0 : World) (Q : Ex → St → Prop) : Exit → Act → World → Prop
  | .normal => Post ds B Ok0 w0 (Q .normal)
  | .exit i => Post ds B Ok0 w0 (Q (.exit i))
  | .ret => Post ds B Ok0 w0 (Q .ret)
  | _ => fun _ _ => False
theorem opsK_sound (hT : ttOk P T = true) (hE : EnvOk P E) (hB : ∀ g, B g → g < w0.heap.size) {ops : Array Oper} {Q : Ex → St → Prop} : ∀ (l : List Oper) {st : St} {a : Act} {w : World} {Ok : Nat → Prop} {β : List Value}, a.defers = ds →
    Rel B Ok0 w0 w Ok β st a.tmps.toList → opsK T E ops.toList l st (Q .normal) → wpList P ops (PostX ds B Ok0 w0 Q) l a w
  | [], st, a, w, Ok, β, hd, r, h => ⟨hd, st, Ok, β, h, r⟩
  | o :: l, st, a, w, Ok, β, hd, r, h => by
    have hs := runK_step (ops := ops) hT hE hB hd r h
    refine wpList_step fun K hK => ?_
    have next : ∀ a' w', Post ds B Ok0 w0 (fun st => opsK T E ops.toList l st (Q .normal)) a' w' → K a' w' := by
      rintro a' w' ⟨hd', st', Ok', β', hq, r'⟩
      exact hK _ _ (opsK_sound hT hE hB l hd' r' hq)
    split
    · rename_i hw
      exact (hs.yes hw).wp fun v w' h => next _ _ h.2
    · rename_i hw
      exact next _ _ (hs.no (by simpa using hw))

/-! ### regions that draw -/
def wpAnyT (P : Program) (ops : Array Oper) (Q : Exit → Act → World → Prop) : Nat → Array Bool → Act → World → Prop
  | 0, listed, a, w => Region.ready .any ops listed = [] ∧ Q .normal a w
  | fuel + 1, listed, a, w =>
    (Region.ready .any ops listed = [] → Q .normal a w) ∧
    ∀ i ∈ Region.ready .any ops listed, wpOp P ops Q i (fun a' w' => (((ops[i]?).map tame).getD true = true → Grow w w') ∧ wpAnyT P ops Q fuel (listed.setIfInBounds i true) a' w') a w
theorem wpAny_of_T {ops : Array Oper} {Q : Exit → Act → World → Prop} : ∀ (fuel : Nat) (listed : Array Bool) (a : Act) (w : World), wpAnyT P ops Q fuel listed a w → wpAny P .any ops Q fuel listed a w
  | 0, _, _, _, h => h
  | fuel + 1, _, _, _, h => ⟨h.1, fun i hi => wpOp_mono (fun a' w' h' => wpAny_of_T fuel _ a' w' h'.2) (h.2 i hi)⟩
theorem YieldsIf.weaken {ops : Array Oper} {S S' : World → Prop} {o : Oper} {v : Value} {a : Act} (h : YieldsIf P ops S o v a) (hs : ∀ w, S' w → S w) : YieldsIf P ops S' o v a :=
  h.imp (fun ⟨h1, h2⟩ => ⟨h1, fun w hw => h2 w (hs w hw)⟩) id
/-- An operation that only reads goes first. G: how the world may turn before it is due. -/
theorem wpAnyT_first {ops : Array Oper} {Q : Exit → Act → World → Prop} (G : World → World → Prop) (hrefl : ∀ w, G w w) (htrans : ∀ a b c, G a b → G b c → G a c) {i : Nat} {oi : Oper} {v : Value} (hi : ops[i]? = some oi)
    (hsel : ∀ (j : Nat) (o : Oper) cs b, ops[j]? = some o → o.op ≠ .select cs b) (hQ : ∀ c a w, Q (.panic c) (a.put oi.dst v) w → Q (.panic c) a w) :
    ∀ (fuel : Nat) (listed : Array Bool) (a : Act) (w : World),
      (∀ j oj, ops[j]? = some oj → j ≠ i → listed.getD j true = false → (∀ e ∈ oj.after, Region.binds .any e = true → e.on ≠ i) → oi.apart ops oj = true ∧ ∀ w w', (tame oj = true → Grow w w') → G w w') →
      i ∈ Region.ready .any ops listed → YieldsIf P ops (G w) oi v a →
      wpAnyT P ops Q fuel (listed.setIfInBounds i true) (a.put oi.dst v) w → wpAnyT P ops Q (fuel + 1) listed a w := by
  intro fuel
  induction fuel with
  | zero =>
    intro listed a w _ hr hy H
    refine ⟨fun h => (by rw [h] at hr; cases hr), fun j hj => ?_⟩
    by_cases hji : j = i
    · subst hji; exact hy.wpOp hi (hrefl w) ⟨fun _ => .refl w, H⟩
    · have := ready_mono hj hji
      rw [H.1] at this
      cases this
  | succ fuel ih =>
    intro listed a w hfree hr hy H
    refine ⟨fun h => (by rw [h] at hr; cases hr), fun j hj => ?_⟩
    by_cases hji : j = i
    · subst hji; exact hy.wpOp hi (hrefl w) ⟨fun _ => .refl w, H⟩
    · have h1 := H.2 j (ready_mono hj hji)
      obtain ⟨hjun, oj, hoj, hall⟩ := mem_ready.1 hj
      have hnot : ∀ e ∈ oj.after, Region.binds .any e = true → e.on ≠ i := fun e he hb heq => by
        have h1 := hall e he hb
        have h0 := (mem_ready.1 hr).1
        rw [heq] at h1
        rcases Nat.lt_or_ge i listed.size with h' | h'
        · simp [h'] at h0 h1; rw [h0] at h1; cases h1
        · simp [Array.getElem?_eq_none h'] at h1
      have hfj := hfree j oj hoj hji hjun hnot
      have h2 := wpOp_putIf hoj hfj.1 (fun cs b => hsel i oi cs b hi) (fun cs b => hsel j oj cs b hoj) hQ hy h1
      have hfree' : ∀ k ok, ops[k]? = some ok → k ≠ i → (listed.setIfInBounds j true).getD k true = false →
          (∀ e ∈ ok.after, Region.binds .any e = true → e.on ≠ i) → oi.apart ops ok = true ∧ ∀ w w', (tame ok = true → Grow w w') → G w w' := fun k ok hk hki hun hno => by
        refine hfree k ok hk hki ?_ hno
        by_cases hjk : j = k
        · subst hjk; exact hjun
        · rw [getD_set_ne true hjk] at hun; exact hun
      refine wpOp_mono (fun a' w' h3 => ?_) h2
      obtain ⟨hy3, htm, hrest⟩ := h3
      have hG : G w w' := hfj.2 w w' fun ht => htm (by rw [hoj]; exact ht)
      refine ⟨htm, ih (listed.setIfInBounds j true) a' w' hfree' (ready_mono hr (Ne.symm hji)) (YieldsIf.weaken hy3 fun w'' h => htrans _ _ _ hG h) ?_⟩
      rw [Array.setIfInBounds_comm _ _ hji]
      exact hrest
theorem allK_mem {F : Nat → Prop} : ∀ {l : List Nat}, allK l F → ∀ i ∈ l, F i
  | [], _, i, hi => by simp at hi
  | [x], h, i, hi => by simp at hi; subst hi; exact h
  | x :: y :: r, h, i, hi => by
    rcases List.mem_cons.1 hi with rfl | hi
    · exact h.1
    · exact allK_mem h.2 i hi
theorem ordK_sound (hT : ttOk P T = true) (hE : EnvOk P E) (hB : ∀ g, B g → g < w0.heap.size) {ops : Array Oper} (hsel : Region.noSelect ops = true) {Q : Ex → St → Prop} : ∀ (n : Nat) (listed : Array Bool) {st : St} {a : Act} {w : World} {Ok : Nat → Prop} {β : List Value},
    a.defers = ds → Rel B Ok0 w0 w Ok β st a.tmps.toList → ordK T E ops (Q .normal) n listed st → wpAnyT P ops (PostX ds B Ok0 w0 Q) n listed a w
  | 0, listed, st, a, w, Ok, β, hd, r, h => by
    unfold ordK at h
    split at h
    · rename_i hr
      exact ⟨hr, hd, st, Ok, β, h, r⟩
    · exact h.elim
  | n + 1, listed, st, a, w, Ok, β, hd, r, h => by
    unfold ordK at h
    split at h
    · rename_i hr
      have hp : PostX ds B Ok0 w0 Q .normal a w := ⟨hd, st, Ok, β, h, r⟩
      exact ⟨fun _ => hp, by rw [hr]; simp⟩
    · rename_i i0 rs hr
      · have next : ∀ (i : Nat) a' w', Post ds B Ok0 w0 (fun st => ordK T E ops (Q .normal) n (listed.setIfInBounds i true) st) a' w' → wpAnyT P ops (PostX ds B Ok0 w0 Q) n (listed.setIfInBounds i true) a' w' := by
          rintro i a' w' ⟨hd', st', Ok', β', hq, r'⟩
          exact ordK_sound hT hE hB hsel n _ hd' r' hq
        split at h
        · rename_i i hfind
          obtain ⟨o, ho, h2⟩ := someK_iff h
          have hs := runK_step (ops := ops) hT hE hB hd r h2
          have hmem : i ∈ Region.ready .any ops listed := by rw [hr]; exact List.mem_of_find?_eq_some hfind
          have hfst := List.find?_some hfind
          simp only [firstOf, ho, Bool.and_eq_true, Bool.not_eq_true'] at hfst
          obtain ⟨⟨hact, hfree⟩, hld⟩ := hfst
          obtain ⟨v, hv, hpost⟩ := hs.pure hact
          have hnx := next i _ _ hpost
          cases hl : isLoad o with
          | false =>
            refine wpAnyT_first (fun _ _ => True) (fun _ => trivial) (fun _ _ _ _ _ => trivial) ho (Region.noSelect_spec hsel) (fun _ _ _ h => h) n listed a w
              (fun j oj hj hne hun hno => ⟨Region.free_spec ho hfree j oj hj hne hun hno, fun _ _ _ => trivial⟩) hmem ?_ hnx
            rcases hv with ⟨hw, hp⟩ | ⟨hw, hv⟩
            · exact .inl ⟨hw, fun w'' _ => hp w'' (by rw [hl]; intro h; cases h)⟩
            · exact .inr ⟨hw, hv⟩
          | true =>
            refine wpAnyT_first Grow Grow.refl (fun _ _ _ => Grow.trans) ho (Region.noSelect_spec hsel) (fun _ _ _ h => h) n listed a w
              (fun j oj hj hne hun hno => ⟨Region.free_spec ho hfree j oj hj hne hun hno, ?_⟩) hmem ?_ hnx
            · have h3 := hld
              simp only [hl, Bool.not_true, Bool.false_or, List.all_eq_true, List.mem_range] at h3
              have h4 := h3 j (Array.getElem?_eq_some_iff.1 hj).1
              simp only [hj, hun, Bool.or_eq_true, beq_iff_eq, hne, false_or, Bool.false_eq_true] at h4
              rcases h4 with h4 | h4
              · exact fun w w' h => h h4
              · exfalso
                rw [Array.any_eq_true] at h4
                obtain ⟨k, hk, h5⟩ := h4
                simp only [Bool.and_eq_true, beq_iff_eq] at h5
                exact hno _ (Array.getElem_mem hk) h5.1 h5.2
            · rcases hv with ⟨hw, hp⟩ | ⟨hw, hv⟩
              · exact .inl ⟨hw, fun w'' hg => hp w'' fun _ => hg⟩
              · exact .inr ⟨hw, hv⟩
        · have hall := allK_mem h
          refine ⟨fun h0 => (by rw [hr] at h0; cases h0), fun i hi => ?_⟩
          rw [hr] at hi
          obtain ⟨o, ho, h2⟩ := someK_iff (hall i hi)
          have hs := runK_step (ops := ops) hT hE hB hd r h2
          unfold wpOp
          simp only [ho, Option.map_some, Option.getD_some]
          split
          · rename_i hw
            exact .inl ((hs.yes hw).wp fun v w' h => ⟨h.1, next i _ _ h.2⟩)
          · rename_i hw
            exact ⟨fun _ => .refl w, next i _ _ (hs.no (by simpa using hw))⟩
end
end Go.AM
