/- The abstract machine: code and functions. Conditions: none. -/
import Derived.Test.YtlfelhdcokadbaaCode
import Derived.Deep.LoopGhost
set_option linter.all false
namespace Go.AM
open Go.RowKit
universe u
section
variable {P : Program} {T : TT} {E : Env} {w w' w0 : World} {B Ok0 Ok : Nat → Prop} {β : List Value}
theorem brM {c : Bool} {X Y X' Y' : Prop} (h1 : X → X') (h2 : Y → Y') : brP c X Y → brP c X' Y' := by
  cases c
  · exact h2
  · exact h1
theorem andM {X Y X' Y' : Prop} (h1 : X → X') (h2 : Y → Y') : X ∧ Y → X' ∧ Y' := And.imp h1 h2
theorem allM {α : Sort u} {X X' : α → Prop} (h : ∀ x, X x → X' x) : (∀ x, X x) → ∀ x, X' x := fun hx x => h x (hx x)
theorem ap {X Y : Prop} (x : X) (h : X → Y) : Y := h x
/-- A statement that nobody looks behind. -/
structure Of (p : Prop) : Prop where
  out : p
theorem kcO {A B : Prop} (e : A = B) (h : A) : Of B := ⟨e ▸ h⟩
/-! ### named anew -/
theorem nodupB_inj : ∀ {L : List Nat}, nodupB L = true → ∀ {i j : Nat} {x : Nat}, L[i]? = some x → L[j]? = some x → i = j
  | [], _, i, _, _, h, _ => by simp at h
  | y :: r, hn, i, j, x, hi, hj => by
    simp only [nodupB, Bool.and_eq_true, Bool.not_eq_true', List.contains_eq_mem, decide_eq_false_iff_not] at hn
    cases i with
    | zero =>
      cases j with
      | zero => rfl
      | succ j =>
        simp at hi hj
        subst hi
        exact absurd (List.mem_of_getElem? hj) hn.1
    | succ i =>
      cases j with
      | zero =>
        simp at hi hj
        subst hj
        exact absurd (List.mem_of_getElem? hi) hn.1
      | succ j =>
        have := nodupB_inj hn.2 (i := i) (j := j) (x := x) (by simpa using hi) (by simpa using hj)
        omega
theorem place_get : ∀ {L : List Nat} {i j : Nat}, place L i = some j → L[j]? = some i
  | [], _, _, h => by simp [place] at h
  | x :: r, i, j, h => by
    simp only [place] at h
    split at h
    · rename_i e; cases h; simp [e]
    · cases hp : place r i with
      | none => rw [hp] at h; cases h
      | some k => rw [hp] at h; cases h; simpa using place_get hp
theorem renHeap_spec {L : List Nat} {h : List Ob} : ∀ {r : List Nat} {s : List Ob}, renHeap L h r = some s → All2 (fun o i => ∃ o', h[i]? = some o' ∧ o = mapOb (renL L) o') s r
  | [], s, e => by simp [renHeap] at e; subst e; trivial
  | i :: r, s, e => by
    simp only [renHeap] at e
    split at e
    · rename_i o ho
      split at e
      · rename_i s' hs
        cases e
        exact ⟨⟨o, ho, rfl⟩, renHeap_spec hs⟩
      · cases e
    · cases e
def renB (β : List Value) (L : List Nat) : List Value := L.map fun i => (β[i]?).getD undef
theorem renB_get {L : List Nat} {i j : Nat} {v : Value} (hj : L[j]? = some i) (hv : β[i]? = some v) : (renB β L)[j]? = some v := by
  simp [renB, hj, hv]
theorem ren_rel {L : List Nat} {l : Lf} {v : Value} (h : RelL w Ok β l v) : RelL w Ok (renB β L) (renL L l) v := by
  cases l with
  | own i =>
    simp only [renL]
    split
    · rename_i j hj; exact ⟨renB_get (place_get hj) h.1, h.2⟩
    · exact h.def1 (by simp)
  | ptr i o =>
    simp only [renL]
    split
    · rename_i j hj; obtain ⟨g, h1, h2⟩ := h; exact ⟨g, renB_get (place_get hj) h1, h2⟩
    · exact h.def1 (by simp)
  | mp i =>
    simp only [renL]
    split
    · rename_i j hj; exact ⟨renB_get (place_get hj) h.1, h.2⟩
    · exact h.def1 (by simp)
  | ept i a z o =>
    simp only [renL]
    split
    · rename_i j hj; obtain ⟨g, o, n, c, h1, h2⟩ := h; exact ⟨g, o, n, c, renB_get (place_get hj) h1, h2⟩
    · exact h.def1 (by simp)
  | clo f cs =>
    simp only [renL]
    split
    · rename_i ds hds
      obtain ⟨vs, h1, h2⟩ := h
      refine ⟨vs, h1, ?_⟩
      have hm := mapM_all2 hds
      revert h2 hm
      clear hds h1
      generalize vs.toList = us
      intro h2 hm
      induction ds generalizing cs us with
      | nil => cases cs with
        | nil => rw [h2.nil_left]; trivial
        | cons _ _ => exact hm.elim
      | cons d ds ih => cases cs with
        | nil => exact hm.elim
        | cons c cs => cases us with
          | nil => exact h2.elim
          | cons u us =>
            refine ⟨?_, ih cs (us := us) h2.2 hm.2⟩
            have h3 := hm.1
            cases c with
            | id n =>
              simp only [capR] at h3
              cases hp : place L n with
              | none => rw [hp] at h3; cases h3
              | some j =>
                rw [hp] at h3; cases h3
                obtain ⟨g, h4, h5⟩ := h2.1
                exact ⟨g, renB_get (place_get hp) h4, h5⟩
            | imm k x => cases h3; exact h2.1
    · exact h.def1 (by simp)
  | _ => exact h
theorem renH {heap heap' : List Ob} (h : RelH w Ok β heap) {L : List Nat} (hn : nodupB L = true) (hr : renHeap L heap L = some heap') : RelH w Ok (renB β L) heap' ∧ ∀ v, v ∈ renB β L → v ∈ β := by
  have hs := renHeap_spec hr
  have hmem : ∀ (j : Nat) v, (renB β L)[j]? = some v → ∃ i, L[j]? = some i ∧ β[i]? = some v := by
    intro j v hv
    simp only [renB, List.getElem?_map] at hv
    cases hj : L[j]? with
    | none => rw [hj] at hv; cases hv
    | some i =>
      rw [hj] at hv
      obtain ⟨o, ho⟩ : ∃ o, heap'[j]? = some o := by
        have : j < heap'.length := by rw [hs.length]; exact (List.getElem?_eq_some_iff.1 hj).1
        exact ⟨_, List.getElem?_eq_getElem this⟩
      obtain ⟨i', hi', o', ho', _⟩ := hs.get ho
      rw [hj] at hi'
      cases hi'
      obtain ⟨u, hu, _⟩ := h.obj ho'
      simp only [Option.map_some, hu, Option.getD_some, Option.some.injEq] at hv
      subst hv
      exact ⟨i, rfl, hu⟩
  have hall : ∀ v, v ∈ renB β L → v ∈ β := fun v hv => by
    obtain ⟨j, hj⟩ := List.getElem?_of_mem hv
    obtain ⟨i, _, hi⟩ := hmem j v hj
    exact List.mem_of_getElem? hi
  refine ⟨⟨?_, ?_, ?_, h.okLt, ?_⟩, hall⟩
  · refine All2.of_get (by rw [hs.length]; simp [renB]) fun j o v ho hv => ?_
    obtain ⟨i, hj, hi⟩ := hmem j v hv
    obtain ⟨i', hi', o', ho', e⟩ := hs.get ho
    rw [hj] at hi'
    cases hi'
    obtain ⟨u, hu, hou⟩ := h.obj ho'
    rw [hi] at hu
    cases hu
    rw [e]
    exact RelO.mapL _ rfl (fun _ _ => ren_rel) (Stay.refl w Ok) (fun _ _ => rfl) hou
  · intro j1 j2 v u g h1 h2 hv hu
    obtain ⟨i1, hj1, hi1⟩ := hmem j1 v h1
    obtain ⟨i2, hj2, hi2⟩ := hmem j2 u h2
    have := h.dist i1 i2 v u g hi1 hi2 hv hu
    subst this
    exact nodupB_inj hn hj1 hj2
  · exact fun v g hv hg => h.lt v g (hall v hv) hg
  · exact fun v g hv hg => h.okNot v g (hall v hv) hg
theorem keep_rel : ∀ {keep : List Nat} {n : Nat} {l : List V} {tm : List Value}, All2 (RelV w Ok β) l tm → All2 (RelV w Ok β) (keepFrom keep n l) tm
  | _, _, [], [], _ => trivial
  | keep, n, x :: r, v :: tm, h => by
    refine ⟨?_, keep_rel h.2⟩
    split
    · exact h.1
    · trivial
theorem normK_sound {st : St} {tm : List Value} (r : Rel B Ok0 w0 w Ok β st tm) {keep : List Nat} {Q : St → Prop} (h : normK keep st Q) : ∃ st' β', Q st' ∧ Rel B Ok0 w0 w Ok β' st' tm := by
  unfold normK at h
  simp only at h
  obtain ⟨hn, h2⟩ := ifK_iff h
  obtain ⟨heap', hr, h3⟩ := someK_iff h2
  rw [stK_eq] at h3
  obtain ⟨hH, hm⟩ := renH r.s.h hn hr
  exact ⟨_, _, h3, ⟨hH, All2.map _ ((keep_rel r.s.s).mono fun _ _ => RelV.mapL _ rfl fun _ _ => ren_rel)⟩, r.fr, fun v g hv => r.wr v g (hm v hv), r.new, r.old⟩

/-! ### code -/
theorem Rel.drew {st : St} {tm : List Value} (r : Rel B Ok0 w0 w Ok β st tm) : Rel B Ok0 w0 { w with drawn := w.drawn + 1 } Ok β st tm := by
  have hs : Stay w { w with drawn := w.drawn + 1 } Ok Ok := ⟨fun _ h => h, fun _ _ _ h => h⟩
  have hb : ∀ (i : Nat) v, β[i]? = some v → β[i]? = some v := fun _ _ h => h
  exact ⟨⟨⟨r.s.h.objs.mono fun _ _ => RelO.mono hs hb (fun _ _ => rfl), r.s.h.dist, r.s.h.lt, r.s.h.okLt, r.s.h.okNot⟩, r.s.s.mono fun _ _ => RelV.mono hs hb⟩,
    ⟨r.fr.os, r.fr.tape, r.fr.output, r.fr.size, r.fr.block⟩, r.wr, r.new, r.old⟩
theorem awp_sound {ds : List Deferred} (hT : ttOk P T = true) (hE : EnvOk P E) (hm : P.follows .mixedOrders = true) (hB : ∀ g, B g → g < w0.heap.size) {A : Ann} : ∀ (code : Code) (c : Nat) {st : St} {a : Act} {w : World} {Ok : Nat → Prop} {β : List Value} {Q : Ex → St → Prop},
    a.defers = ds → Rel B Ok0 w0 w Ok β st a.tmps.toList → awp T E A code c st Q → code.wp P (PostX ds B Ok0 w0 Q) a w := by
  intro code
  induction code with
  | skip => intro c st a w Ok β Q hd r h; exact wp_skip ⟨hd, st, Ok, β, h, r⟩
  | region id ops draw =>
    intro c st a w Ok β Q hd r h
    cases draw with
    | false => exact wp_region_list (opsK_sound hT hE hB _ hd r h)
    | true =>
      obtain ⟨hsel, h2⟩ := ifK_iff h
      exact wp_region_any hm (wpAny_of_T _ _ _ _ (ordK_sound hT hE hB hsel ops.size _ hd r.drew h2))
  | seq x y ihx ihy =>
    intro c st a w Ok β Q hd r h
    refine wp_seq (wp_mono (ihx c hd r h) fun e a' w' hq => ?_)
    cases e with
    | normal =>
      obtain ⟨hd', st', Ok', β', hq, r'⟩ := hq
      exact ihy c hd' r' hq
    | exit id => exact hq
    | ret => exact hq
    | _ => exact hq.elim
  | cond t x y ihx ihy =>
    intro c st a w Ok β Q hd r h
    cases t with
    | tmp t =>
      obtain ⟨v, hv, h2⟩ := getK_iff h
      obtain ⟨b, hb, hr⟩ := r.s.s.get hv
      have he : a.eval (.tmp t) = b := by
        have hb' : a.tmps[t]? = some b := by simpa using hb
        show a.tmps.getD t undef = b
        simp [hb']
      split at h2
      · rename_i d
        have hbv : b = .bool d := hr
        subst hbv
        cases d with
        | true =>
          simp only [brP, putK_eq] at h2
          exact wp_cond_true he (ihx c hd (r.know hb (av := .v (.one (.bool true))) rfl) h2)
        | false =>
          simp only [brP, putK_eq] at h2
          exact wp_cond_false he (ihy c hd (r.know hb (av := .v (.one (.bool false))) rfl) h2)
      · exact h2.elim
    | _ => exact h.elim
  | block id x ih =>
    intro c st a w Ok β Q hd r h
    refine wp_block (wp_mono (ih id hd r h) fun e a' w' hq => ?_)
    cases e with
    | normal => exact hq
    | exit i =>
      simp only [Exit.inBlock]
      obtain ⟨hd', st', Ok', β', hq, r'⟩ := hq
      simp only [blkC] at hq
      split
      · rename_i e; rw [if_pos e] at hq; exact ⟨hd', st', Ok', β', hq, r'⟩
      · rename_i e; rw [if_neg e] at hq; exact ⟨hd', st', Ok', β', hq, r'⟩
    | ret => exact hq
    | _ => exact hq.elim
  | loop x ih =>
    intro c st a w Ok β Q hd r h
    obtain ⟨keep, hk, n, h2⟩ := someK_iff h
    obtain ⟨st1, β1, h3, r1⟩ := normK_sound r h2
    refine wp_loop_ghost (fun n a w => a.defers = ds ∧ ∃ st Ok β, loopP (awp T E A x c) keep n st Q ∧ Rel B Ok0 w0 w Ok β st a.tmps.toList) n ⟨hd, st1, Ok, β1, h3, r1⟩ ?_
    rintro n a w ⟨hd, st, Ok, β, h, r⟩
    cases n with
    | zero => exact h.elim
    | succ n =>
      refine wp_mono (ih c hd r h) fun e a' w' hq => ?_
      cases e with
      | normal =>
        obtain ⟨hd', st', Ok', β', hq, r'⟩ := hq
        obtain ⟨st2, β2, h4, r2⟩ := normK_sound r' hq
        exact ⟨n, Nat.lt_succ_self n, hd', st2, Ok', β2, h4, r2⟩
      | exit i =>
        obtain ⟨hd', st', Ok', β', hq, r'⟩ := hq
        obtain ⟨st2, β2, h4, r2⟩ := normK_sound r' hq
        exact ⟨hd', st2, Ok', β2, h4, r2⟩
      | ret =>
        obtain ⟨hd', st', Ok', β', hq, r'⟩ := hq
        obtain ⟨st2, β2, h4, r2⟩ := normK_sound r' hq
        exact ⟨hd', st2, Ok', β2, h4, r2⟩
      | _ => exact hq.elim
  | exit id => intro c st a w Ok β Q hd r h; exact wp_exit ⟨hd, st, Ok, β, h, r⟩
  | ret => intro c st a w Ok β Q hd r h; exact wp_ret ⟨hd, st, Ok, β, h, r⟩
  | _ => intro c st a w Ok β Q hd r h; exact h.elim

/-! ### functions -/
def resRun (tmps : Array Value) : ResultVar → Sem Value
  | .tmp t => pure (tmps.getD t undef)
  | .cell a t => do loadVar t (← asAddr (tmps.getD a undef))
theorem loadAt_addr {t : TypeId} {v u : Value} (h : (Instr.loadAt t v).run P w = .ok u w) : (do loadVar t (← asAddr v) : Sem Value).run P w = .ok u w := by
  cases v with
  | pointer a =>
    cases a with
    | some a => simpa [Instr.loadAt, Instr.sureAddr, asAddr] using h
    | none => simp [Instr.loadAt, Instr.sureAddr, stuck] at h
  | _ => simp [Instr.loadAt, Instr.sureAddr, stuck] at h
theorem resK_sound (hT : ttOk P T = true) {st : St} {a : Act} (r : RelS w Ok β st a.tmps.toList) : ∀ {rs : List ResultVar} {Q : List V1 → Prop}, resK T st rs Q →
    ∃ vs us, Q vs ∧ All2 (RelV1 w Ok β) vs us ∧ (rs.mapM (resRun a.tmps)).run P w = .ok us w
  | [], Q, h => ⟨[], [], h, trivial, by simp⟩
  | .tmp t :: rs, Q, h => by
    obtain ⟨v, h2, hv⟩ := ev1_sound r h
    obtain ⟨vs, us, hq, hall, hrun⟩ := resK_sound hT r h2
    refine ⟨v :: vs, _ :: us, hq, ⟨hv, hall⟩, ?_⟩
    simp [List.mapM_cons, resRun, hrun, Act.eval]
  | .cell p t :: rs, Q, h => by
    obtain ⟨l, h2, hl⟩ := evL_sound r h
    obtain ⟨x, u, h3, hx, hload⟩ := loadK_sound hT r.h h2 hl
    obtain ⟨vs, us, hq, hall, hrun⟩ := resK_sound hT r h3
    refine ⟨x :: vs, u :: us, hq, ⟨hx, hall⟩, ?_⟩
    have h5 := loadAt_addr (hload w (.refl w))
    simp only [Act.eval] at h5
    simp only [List.mapM_cons, resRun]
    rw [Sem.run_bind, h5]
    simp [hrun]
theorem results_run {fn : Func} {tmps : Array Value} {us : List Value} (h : (fn.results.toList.mapM (resRun tmps)).run P w = .ok us w) : (results fn tmps).run P w = .ok (match us with | [u] => u | us => .tuple us.toArray) w := by
  have e : (fn.results.mapM (resRun tmps)).run P w = .ok us.toArray w := by
    rw [Array.mapM_eq_mapM_toList]
    simp [h]
  have e3 : results fn tmps = (fn.results.mapM (resRun tmps) >>= fun vs => pure (if h : vs.size = 1 then vs[0] else .tuple vs)) := by
    unfold results
    congr 1
  rw [e3, Sem.run_bind, e]
  cases us with
  | nil => rfl
  | cons u us => cases us <;> rfl
theorem exportK_sound {st : St} {a : Act} (r : Rel B Ok0 w0 w Ok β st a.tmps.toList) {n : Nat} {vs : List V1} {us : List Value} (hv : All2 (RelV1 w Ok β) vs us) {Q : List V1 → List Ob → Prop} (h : exportK n st vs Q) :
    ∃ res h' β', Q res h' ∧ All2 (RelV1 w Ok β') res us ∧ Rel B Ok0 w0 w Ok β' ⟨[], h'⟩ [] := by
  unfold exportK at h
  simp only at h
  obtain ⟨hn, h2⟩ := ifK_iff h
  obtain ⟨heap', hr, h3⟩ := someK_iff h2
  rw [v1sK_eq, obsK_eq] at h3
  obtain ⟨hH, hm⟩ := renH r.s.h hn hr
  exact ⟨_, _, _, h3, All2.map _ (hv.mono fun _ _ => RelV1.mapL _ rfl fun _ _ => ren_rel), ⟨hH, trivial⟩, r.fr, fun v g hv => r.wr v g (hm v hv), r.new, r.old⟩
theorem afun_sound (hT : ttOk P T = true) (hE : EnvOk P E) (hm : P.follows .mixedOrders = true) {A : Ann} {f : FuncId} {fn : Func} (hf : P.funcs[f]? = some fn) : SpecOk P f (afun T E A fn) := by
  intro args h K hk w0 Ok0 β0 vals hargs hH
  unfold afun at hk
  obtain ⟨c, hc, h2⟩ := someK_iff hk
  obtain ⟨hle, h3⟩ := ifK_iff h2
  rw [stK_eq] at h3
  have hlen := hargs.length
  refine calls_of_wp hf hc ?_
  have hB : ∀ g, Held w0 β0 g → g < w0.heap.size := fun g hg => hg.1
  have r : Rel (Held w0 β0) Ok0 w0 w0 Ok0 β0 ⟨args.map .v ++ List.replicate (fn.ntmps - args.length) (.v (.one .undef)), h⟩ (vals.toArray ++ Array.replicate (fn.ntmps - vals.toArray.size) undef).toList := by
    refine ⟨⟨hH, ?_⟩, ⟨rfl, rfl, rfl, Nat.le_refl _, fun _ _ => rfl⟩, fun v g hv hg hh => hh.2 v hv hg, fun g hg => .inl hg, fun g hg => hg⟩
    rw [Array.toList_append]
    refine All2.append (All2.map _ hargs) (All2.of_get (by simp [hlen]) fun i x y hx _ => ?_)
    have : x = .v (.one .undef) := by
      obtain ⟨_, hx⟩ := List.getElem?_eq_some_iff.1 hx
      simpa using hx.symm
    rw [this]; trivial
  refine wp_mono (awp_sound hT hE hm hB c 0 (a := { tmps := vals.toArray ++ Array.replicate (fn.ntmps - vals.toArray.size) undef, defers := [] }) rfl r h3) fun e a' w' hq => ?_
  have key : ∀ {st : St} {Ok : Nat → Prop} {β : List Value}, a'.defers = [] → (resK T st fn.results.toList fun vs => exportK h.length st vs K) → Rel (Held w0 β0) Ok0 w0 w' Ok β st a'.tmps.toList →
      a'.defers = [] ∧ ∃ v, (results fn a'.tmps).run P w' = .ok v w' ∧ Ret w0 Ok0 β0 K (.returned v) w' := by
    intro st Ok β hd hres r'
    obtain ⟨vs, us, hq, hall, hrun⟩ := resK_sound hT r'.s hres
    obtain ⟨res, h', β', hk', hrv, hrel⟩ := exportK_sound r' hall hq
    refine ⟨hd, _, results_run hrun, res, h', Ok, β', hk', ?_, hrel⟩
    cases res with
    | nil => trivial
    | cons x xs => cases us with
      | nil => exact hrv.elim
      | cons u us => cases xs with
        | nil => cases us with
          | nil => exact hrv.1
          | cons _ _ => exact hrv.2.elim
        | cons y ys => cases us with
          | nil => exact hrv.2.elim
          | cons u2 us => exact ⟨_, rfl, hrv⟩
  cases e with
  | normal =>
    obtain ⟨hd, st, Ok, β, hq, r'⟩ := hq
    exact key hd hq r'
  | ret =>
    obtain ⟨hd, st, Ok, β, hq, r'⟩ := hq
    exact key hd hq r'
  | exit i =>
    obtain ⟨hd, st, Ok, β, hq, r'⟩ := hq
    exact hq.elim
  | _ => exact hq.elim
/-- A spec that follows from what the machine makes of the body. -/
theorem SpecOk.of {f : FuncId} {p q : PT} (h : SpecOk P f p) (hpq : ∀ args K, q args [] K → p args [] K) (hq : ∀ args h K, q args h K → h = []) : SpecOk P f q := by
  intro args h K hk
  have := hq args h K hk
  subst this
  exact h args [] K (hpq args K hk)
end
end Go.AM
