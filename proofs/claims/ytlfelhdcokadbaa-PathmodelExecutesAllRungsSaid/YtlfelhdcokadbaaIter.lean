/- The abstract machine: a loop over a function, its rounds, its iterator. Conditions: none. -/
import Derived.Test.YtlfelhdcokadbaaSeal
set_option linter.all false
namespace Go.AM
open Go.RowKit
section
variable {P : Program} {T : TT} {E : Env} {w w' w0 : World} {B Ok0 Ok : Nat → Prop} {β : List Value} {st : St} {tm : List Value} {l n : Nat} {ds : List Deferred}
theorem calls_wide {f : FuncId} {args : Array Value} {R : Ending → World → Prop} (h : Calls P f args w R) : CallsIn Fence.wide n P f args w R := callsIn_wide.2 h
theorem rows_wide {row : String} {args : Array Value} {R : Value → World → Prop} (h : Rows P row args w R) : RowsIn Fence.wide n P row args w R :=
  fun c cs _ => let ⟨v, w', r, s⟩ := h c cs; ⟨v, w', r, stepsIn_wide.2 s⟩
theorem op_wide {o : Oper} {a : Act} {K : Act → World → Prop} {Q : Exit → Act → World → Prop} (h : o.wp P a w K Q) : o.wpIn Fence.wide n P a w K Q := by
  refine ⟨fun _ _ => trivial, ?_⟩
  have e : o.semAt Fence.wide.round a.eval = execOp a.eval o := by simp [Fence.wide, Oper.semAt]
  rw [e]
  unfold Oper.wp at h
  generalize (execOp a.eval o).run P w = r at h
  cases r with
  | ok x w' =>
    cases x <;> simp only [Oper.upon, Oper.uponIn] at h ⊢ <;> first
      | exact h
      | exact ⟨fun h => by simp [Fence.wide] at h, calls_wide h⟩
      | exact ⟨fun h => by simp [Fence.wide] at h, rows_wide h⟩
      | exact h.elim
  | halt x w' => cases x <;> simp only [Oper.upon, Oper.uponIn] at h ⊢ <;> exact h
/-- Some operations of a region, and what follows. -/
theorem opsK_then (hT : ttOk P T = true) (hE : EnvOk P E) (hB : ∀ g, B g → g < w0.heap.size) {ops : Array Oper} {rest : List Oper} {R : Exit → Act → World → Prop} {Q : St → Prop} : ∀ (os : List Oper) {st : St} {a : Act} {w : World} {Ok : Nat → Prop} {β : List Value},
    a.defers = ds → Rel B Ok0 w0 w Ok β st a.tmps.toList → opsK T E ops.toList os st Q → (∀ a' w', Post ds B Ok0 w0 Q a' w' → wpListIn Fence.wide n P ops R rest a' w') → wpListIn Fence.wide n P ops R (os ++ rest) a w
  | [], st, a, w, Ok, β, hd, r, h, hk => hk a w ⟨hd, st, Ok, β, h, r⟩
  | o :: os, st, a, w, Ok, β, hd, r, h, hk => by
    have hs := runK_step (ops := ops) hT hE hB hd r h
    have next : ∀ a' w', Post ds B Ok0 w0 (fun st => opsK T E ops.toList os st Q) a' w' → wpListIn Fence.wide n P ops R (os ++ rest) a' w' := by
      rintro a' w' ⟨hd', st', Ok', β', hq, r'⟩
      exact opsK_then hT hE hB os hd' r' hq hk
    show wpListIn Fence.wide n P ops R (o :: (os ++ rest)) a w
    simp only [wpListIn]
    split
    · rename_i hw
      exact op_wide ((hs.yes hw).wp fun v w' h => next _ _ h.2)
    · rename_i hw
      exact ⟨fun _ _ => trivial, next _ _ (hs.no (by simpa using hw))⟩
/-! ### codes in a row -/
def seqL : List Code → Code → Code
  | [], r => r
  | x :: xs, r => .seq x (seqL xs r)
def awpL (T : TT) (E : Env) (A : Ann) : List Code → Nat → St → (Ex → St → Prop) → Prop
  | [], _, st, Q => Q .normal st
  | x :: xs, c, st, Q => awp T E A x c st (seqC (awpL T E A xs c) Q)
theorem awpL_sound (hT : ttOk P T = true) (hE : EnvOk P E) (hm : P.follows .mixedOrders = true) (hB : ∀ g, B g → g < w0.heap.size) {A : Ann} {rest : Code} {R : Exit → Act → World → Prop} {Q : Ex → St → Prop} (c : Nat)
    (hr : ∀ a w, PostX ds B Ok0 w0 Q .normal a w → rest.wpIn Fence.wide n P R a w) (hx : ∀ e a w, e ≠ .normal → PostX ds B Ok0 w0 Q e a w → R e a w) :
    ∀ (xs : List Code) {st : St} {a : Act} {w : World} {Ok : Nat → Prop} {β : List Value}, a.defers = ds → Rel B Ok0 w0 w Ok β st a.tmps.toList → awpL T E A xs c st Q → (seqL xs rest).wpIn Fence.wide n P R a w
  | [], st, a, w, Ok, β, hd, r, h => hr a w ⟨hd, st, Ok, β, h, r⟩
  | x :: xs, st, a, w, Ok, β, hd, r, h => by
    refine wpIn_seq (wpIn_mono (wpIn_wide.2 (awp_sound hT hE hm hB x c hd r h)) fun e a' w' hq => ?_)
    cases e with
    | normal =>
      obtain ⟨hd', st', Ok', β', hq, r'⟩ := hq
      exact awpL_sound hT hE hm hB c hr hx xs hd' r' hq
    | exit id => exact hx _ _ _ (by simp) hq
    | ret => exact hx _ _ _ (by simp) hq
    | _ => exact hq.elim
/-! ### frames, blocks -/
theorem Rel.pushFrame (r : Rel B Ok0 w0 w Ok β st tm) (hB : ∀ g, B g → g < w0.heap.size) : Rel B Ok0 w0 w Ok (β ++ [undef]) ⟨st.slots, st.heap ++ [.frame tm st.slots]⟩ tm :=
  r.push hB (Nat.le_refl _) rfl rfl rfl (fun _ _ => rfl) (fun g hg => by rw [blkOf_undef] at hg; cases hg)
    ⟨rfl, r.s.s.mono fun _ _ => RelV.mono (Stay.refl w Ok) (fun i u h => get_append_some h)⟩
theorem Rel.frame_get (r : Rel B Ok0 w0 w Ok β st tm) {i : Nat} {u : List Value} {cs : List V} (h : st.heap[i]? = some (.frame u cs)) : All2 (RelV w Ok β) cs u := by
  obtain ⟨v, _, _, hr⟩ := r.s.h.obj h
  exact hr
theorem Rel.withSlots (r : Rel B Ok0 w0 w Ok β st tm) {cs : List V} {u : List Value} (h : All2 (RelV w Ok β) cs u) : Rel B Ok0 w0 w Ok β ⟨cs, st.heap⟩ u :=
  ⟨⟨r.s.h, h⟩, r.fr, r.wr, r.new, r.old⟩
theorem Rel.ren (r : Rel B Ok0 w0 w Ok β st tm) {L : List Nat} {heap' : List Ob} (hn : nodupB L = true) (hr : renHeap L st.heap L = some heap') : ∃ β', Rel B Ok0 w0 w Ok β' ⟨st.slots.map (mapV (renL L)), heap'⟩ tm := by
  obtain ⟨hH, hm⟩ := renH r.s.h hn hr
  exact ⟨_, ⟨hH, All2.map _ (r.s.s.mono fun _ _ => RelV.mapL _ rfl fun _ _ => ren_rel)⟩, r.fr, fun v g hv => r.wr v g (hm v hv), r.new, r.old⟩
theorem Rel.pushRaw (r : Rel B Ok0 w0 w Ok β st tm) (hB : ∀ g, B g → g < w0.heap.size) (o : Obj) :
    Rel B Ok0 w0 (w.alloc o) Ok (β ++ [.pointer (some ⟨w.heap.size, 0, none⟩)]) ⟨st.slots, st.heap ++ [.raw w.heap.size o]⟩ tm :=
  r.alloc hB o rfl ⟨rfl, heap_alloc_new w o⟩
theorem Rel.raw_get (r : Rel B Ok0 w0 w Ok β st tm) {i g : Nat} {o : Obj} (h : st.heap[i]? = some (.raw g o)) : w.heap[g]? = some o ∧ β[i]? = some (.pointer (some ⟨g, 0, none⟩)) := by
  obtain ⟨v, hv, h1, h2⟩ := r.s.h.obj h
  exact ⟨h2, by rw [hv, h1]⟩
def setOb (i : Nat) (o : Ob) (s : St) : St := ⟨s.slots, s.heap.set i o⟩
theorem Rel.raw_set (r : Rel B Ok0 w0 w Ok β st tm) (hB : ∀ g, B g → g < w0.heap.size) {i g : Nat} {o : Obj} (h : st.heap[i]? = some (.raw g o)) (o' : Obj) : Rel B Ok0 w0 (w.putObj g o') Ok β (setOb i (.raw g o') st) tm :=
  r.put1 hB (r.raw_get h).2 rfl o' fun _ hw => ⟨rfl, hw⟩
/-! ### a call, the whole heap handed over -/
theorem inline_calls (r : Rel B Ok0 w0 w Ok β st tm) (hB : ∀ g, B g → g < w0.heap.size) {f : FuncId} {p : PT} (hp : SpecOk P f p) {xs : List V1} {vals : List Value} (hx : All2 (RelV1 w Ok β) xs vals) {K' : List V1 → List Ob → Prop}
    (h : p xs (st.heap ++ [.frame tm st.slots]) K') : Calls P f vals.toArray w fun e w' => ∃ v, e = .returned v ∧ ∃ res h' Ok' β', K' res h' ∧ RetV w' Ok' β' res v ∧ Rel B Ok0 w0 w' Ok' β' ⟨[], h'⟩ [] := by
  have r1 := r.pushFrame hB
  have hx1 : All2 (RelV1 w Ok (β ++ [undef])) xs vals := hx.mono fun _ _ => RelV1.mono (Stay.refl w Ok) (fun i u h => get_append_some h)
  refine Calls.mono (hp xs _ K' h w Ok (β ++ [undef]) vals hx1 r1.s.h) fun e w' he => ?_
  cases e with
  | returned v =>
    obtain ⟨res, h', Ok', β', hk, hret, hrel⟩ := he
    have hheld : ∀ g, B g → Held w (β ++ [undef]) g := fun g hg => ⟨Nat.lt_of_lt_of_le (hB g hg) r.fr.size, fun v hv hb => r1.wr v g hv hb hg⟩
    have hnot : ∀ g, ¬ Held w (β ++ [undef]) g → ¬ B g := fun g hg hb => hg (hheld g hb)
    refine ⟨v, rfl, res, h', Ok', β', hk, hret, hrel.s, ⟨hrel.fr.os.trans r.fr.os, hrel.fr.tape.trans r.fr.tape, hrel.fr.output.trans r.fr.output, Nat.le_trans r.fr.size hrel.fr.size, fun g hg => (hrel.fr.block g (hheld g hg)).trans (r.fr.block g hg)⟩,
      fun v g hv hg => hnot g (hrel.wr v g hv hg), fun g hg => ?_, fun g hg => hrel.old g (r.old g hg)⟩
    rcases hrel.new g hg with h | h
    · exact r.new g h
    · exact .inr (hnot g h)
  | panicked _ => exact he.elim
  | outgrown => exact he.elim
/-! ### a round -/
def atRaw (i : Nat) (s : St) (Q : Nat → Obj → Prop) : Prop :=
  match s.heap[i]? with
  | some (.raw g o) => Q g o
  | _ => False
theorem atRaw_iff {i : Nat} {s : St} {Q : Nat → Obj → Prop} (h : atRaw i s Q) : ∃ g o, s.heap[i]? = some (.raw g o) ∧ Q g o := by
  unfold atRaw at h
  split at h
  · rename_i g o e; exact ⟨g, o, e, h⟩
  · exact h.elim
/-- Back to the frame that stands at iG; only the objects of L stay. -/
def backTo (iG : Nat) (tm : List Value) (L : List Nat) (s : St) (R : St → Prop) : Prop :=
  match s.heap[iG]? with
  | some (.frame u cs) => u = tm ∧ ifK (nodupB L) (someK (renHeap L s.heap L) fun h' => stK ⟨cs.map (mapV (renL L)), h'⟩ R)
  | _ => False
theorem backTo_sound {iG : Nat} {tm' : List Value} {L : List Nat} {s : St} {R : St → Prop} (h : backTo iG tm' L s R) (r : Rel B Ok0 w0 w Ok β s tm) : ∃ s' β', R s' ∧ Rel B Ok0 w0 w Ok β' s' tm' := by
  unfold backTo at h
  split at h
  · rename_i u cs e
    obtain ⟨rfl, h⟩ := h
    obtain ⟨hn, h⟩ := ifK_iff h
    obtain ⟨h', hr, h⟩ := someK_iff h
    rw [stK_eq] at h
    obtain ⟨β', r'⟩ := (r.withSlots (r.frame_get e)).ren (L := L) hn hr
    exact ⟨_, β', h, r'⟩
  · exact h.elim
/-- What a round does: the assignments, the body; what stays behind it. -/
def roundK (T : TT) (E : Env) (A : Ann) (assign body : Code) (iL l : Nat) (oR oB oD : Obj) (iG : Nat) (tm : List Value) (L : List Nat) (s0 : St) (R0 R1 : St → Prop) : Prop :=
  awp T E A assign 0 s0 fun ex s => match ex with
    | .normal => atRaw iL s fun g o => (g = l ∧ o = oR) ∧ awp T E A body 0 (setOb iL (.raw l oB) s) fun ex s => match ex with
      | .normal => atRaw iL s fun g o => (g = l ∧ o = oB) ∧ backTo iG tm L (setOb iL (.raw l oR) s) R0
      | .ret => atRaw iL s fun g o => (g = l ∧ o = oB) ∧ backTo iG tm L (setOb iL (.raw l oD) s) R1
      | .exit _ => False
    | _ => False
theorem round_sound (hT : ttOk P T = true) (hE : EnvOk P E) (hm : P.follows .mixedOrders = true) (hB : ∀ g, B g → g < w0.heap.size) {A : Ann} {fn : FuncId} {u : List Value} {ps : Array Tmp} {assign body : Code} {D iL : Nat}
    (hra : roundB assign = true) (hrb : roundB body = true) (r : Rel B Ok0 w0 w Ok β st tm)
    (hL : st.heap[iL]? = some (.raw l (.loop { state := .ready, pending := none, fn := fn, tmps := u.toArray, params := ps, assign := assign, body := body, defers := D })))
    {args : Array Value} (hps : args.size = ps.size) {sA : List V} (hsA : All2 (RelV w Ok β) sA ((ps.zip args).foldl (fun tmps (t, a) => tmps.setIfInBounds t a) u.toArray).toList) {L : List Nat} {R0 R1 : St → Prop}
    (h : roundK T E A assign body iL l (.loop { state := .ready, pending := none, fn := fn, tmps := u.toArray, params := ps, assign := assign, body := body, defers := D })
      (.loop { state := .busy, pending := none, fn := fn, tmps := u.toArray, params := ps, assign := assign, body := body, defers := D })
      (.loop { state := .done, pending := some .ret, fn := fn, tmps := u.toArray, params := ps, assign := assign, body := body, defers := D }) st.heap.length tm L ⟨sA, st.heap ++ [.frame tm st.slots]⟩ R0 R1) :
    ∃ fn' tmps' assign' body', (Instr.yield l args).run P w = .ok (.round l fn' tmps' assign' body') w ∧ RoundIn Fence.wide n P l fn' tmps' assign' body' w fun e w' =>
      (e = .returned (.bool true) ∧ ∃ s Ok' β', R0 s ∧ Rel B Ok0 w0 w' Ok' β' s tm) ∨ (e = .returned (.bool false) ∧ ∃ s Ok' β', R1 s ∧ Rel B Ok0 w0 w' Ok' β' s tm) := by
  have hw := (r.raw_get hL).1
  refine ⟨_, _, _, _, run_yield hw hps, roundIn_of_wpIn trivial ?_⟩
  have r1 := (r.pushFrame hB).withSlots (hsA.mono fun _ _ => RelV.mono (Stay.refl w Ok) (fun i u h => get_append_some h))
  refine wpIn_mono (awpR_sound (ds := []) hT hE hm hB assign 0 (a := { tmps := _, defers := [] }) hra rfl r1 h) fun e a1 w1 hq => ?_
  cases e with
  | normal =>
    obtain ⟨hd, s, Ok1, β1, hq, r2⟩ := hq
    obtain ⟨g, o, hg, ⟨rfl, rfl⟩, hq⟩ := atRaw_iff hq
    refine ⟨_, run_beginRound (r2.raw_get hg).1 rfl, ?_⟩
    refine wpIn_mono (awpR_sound (ds := []) hT hE hm hB body 0 hrb hd (r2.raw_set hB hg _) hq) fun e a3 w3 hq => ?_
    cases e with
    | normal =>
      obtain ⟨_, s3, Ok3, β3, hq, r3⟩ := hq
      obtain ⟨g, o, hg3, ⟨rfl, rfl⟩, hq⟩ := atRaw_iff hq
      obtain ⟨s4, β4, hr0, r4⟩ := backTo_sound hq (r3.raw_set hB hg3 _)
      exact ⟨_, _, run_endRound none (r3.raw_get hg3).1, .inl ⟨rfl, s4, Ok3, β4, hr0, r4⟩⟩
    | ret =>
      obtain ⟨_, s3, Ok3, β3, hq, r3⟩ := hq
      obtain ⟨g, o, hg3, ⟨rfl, rfl⟩, hq⟩ := atRaw_iff hq
      obtain ⟨s4, β4, hr0, r4⟩ := backTo_sound hq (r3.raw_set hB hg3 _)
      exact ⟨_, _, run_endRound (some .ret) (r3.raw_get hg3).1, .inr ⟨rfl, s4, Ok3, β4, hr0, r4⟩⟩
    | exit _ =>
      obtain ⟨_, _, _, _, hq, _⟩ := hq
      exact hq.elim
    | _ => exact hq.elim
  | exit _ =>
    obtain ⟨_, _, _, _, hq, _⟩ := hq
    exact hq.elim
  | ret =>
    obtain ⟨_, _, _, _, hq, _⟩ := hq
    exact hq.elim
  | _ => exact hq.elim
end
end Go.AM
