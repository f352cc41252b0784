/- The abstract machine: calls. Conditions: none. -/
import Derived.Test.YtlfelhdcokadbaaOpM
set_option linter.all false
namespace Go.AM
open Go.RowKit
def RetV (w : World) (Ok : Nat → Prop) (β : List Value) (res : List V1) (v : Value) : Prop :=
  match res with
  | [x] => RelV1 w Ok β x v
  | [] => True
  | xs => ∃ vs : Array Value, v = .tuple vs ∧ All2 (RelV1 w Ok β) xs vs.toList
/-- What must stay through a call: what stood there, but for what was handed over. -/
def Held (w0 : World) (β0 : List Value) (g : Nat) : Prop := g < w0.heap.size ∧ ∀ v ∈ β0, blkOf v ≠ some g
def Ret (w0 : World) (Ok0 : Nat → Prop) (β0 : List Value) (K : List V1 → List Ob → Prop) : Ending → World → Prop
  | .returned v, w' => ∃ res h' Ok' β', K res h' ∧ RetV w' Ok' β' res v ∧ Rel (Held w0 β0) Ok0 w0 w' Ok' β' ⟨[], h'⟩ []
  | _, _ => False
/-- A function does what its spec says. -/
def SpecOk (P : Program) (f : FuncId) (p : PT) : Prop :=
  ∀ args h K, p args h K → ∀ (w0 : World) (Ok0 : Nat → Prop) (β0 vals : List Value), All2 (RelV1 w0 Ok0 β0) args vals → RelH w0 Ok0 β0 h → Calls P f vals.toArray w0 (Ret w0 Ok0 β0 K)
def entersB (P : Program) (f : FuncId) : Bool :=
  match P.funcs[f]? with
  | some fn => fn.name != "runtime.NumGoroutine" && fn.body.isSome
  | none => false
def EnvOk (P : Program) (E : Env) : Prop := ∀ f p, elook E f = some p → SpecOk P f p ∧ entersB P f = true

section
variable {P : Program} {T : TT} {E : Env} {w w' w0 : World} {B Ok0 Ok Okc : Nat → Prop} {β : List Value}
theorem run_callFunc {f : FuncId} (h : entersB P f = true) (args : Array Value) (w : World) : (callFunc f args).run P w = .ok (.enter f args) w := by
  unfold entersB at h
  split at h
  · rename_i fn hf
    simp only [Bool.and_eq_true, bne_iff_ne, ne_eq] at h
    have h2 : fn.body ≠ none := by intro hb; simp [hb] at h
    simp [callFunc, hf, h.1, h2]
  · cases h
/-- Captured boxes, as data that is only read. -/
theorem capB_sound {heap : List Ob} (hh : RelH w Ok β heap) (hs : ∀ g, Ok g → Okc g) (hall : ∀ v g, v ∈ β → blkOf v = some g → Okc g) {c d : Cap} {u : Value} (h : capB T heap c = some d) (hr : RelCap w Ok β c u) :
    (∃ k x, d = .imm k x) ∧ RelCap w Okc [] d u := by
  cases c with
  | imm k x =>
    simp only [capB] at h
    cases h
    exact ⟨⟨k, x, rfl⟩, RelRp.mono ⟨hs, fun _ _ _ h => h⟩ hr⟩
  | id n =>
    simp only [capB] at h
    split at h
    · rename_i t cs ho
      split at h
      · rename_i i hi
        split at h
        · rename_i k hk
          split at h
          · rename_i x hx
            cases h
            refine ⟨⟨k, x, rfl⟩, ?_⟩
            obtain ⟨b, hb, hro⟩ := hh.obj ho
            obtain ⟨g, cur, hbv, hg, hcs⟩ := hro
            obtain ⟨g', hb', hu⟩ := hr
            rw [hb, hbv] at hb'
            obtain rfl : g = g' := by cases hb'; rfl
            have hd : RdC w Okc k x cur.toList := deep_sound hh hs hx (fun g' hg' => by
              obtain ⟨i, _, v, hv, hbk⟩ := hg'
              exact hall v g' (List.mem_of_getElem? hv) hbk) hcs
            have hlen := hd.len
            refine ⟨g, 0, cur, t, (0, 0), by rw [hu], hall b g (List.mem_of_getElem? hb) (by rw [hbv]; rfl), hg, by rw [Array.length_toList] at hlen; omega, ?_⟩
            rw [List.drop_zero, List.take_of_length_le (by omega)]
            exact hd
          · cases h
        · cases h
      · cases h
    · cases h
theorem caps_sound {heap : List Ob} (hh : RelH w Ok β heap) (hs : ∀ g, Ok g → Okc g) (hall : ∀ v g, v ∈ β → blkOf v = some g → Okc g) {cs ds : List Cap} {us : List Value} (h : cs.mapM (capB T heap) = some ds) (hr : All2 (RelCap w Ok β) cs us) :
    All2 (RelCap w Okc []) ds us := by
  have := mapM_all2 h
  clear h
  induction ds generalizing cs us with
  | nil =>
    cases cs with
    | nil => rw [hr.nil_left]; trivial
    | cons _ _ => exact this.elim
  | cons d ds ih =>
    cases cs with
    | nil => exact this.elim
    | cons c cs =>
      cases us with
      | nil => exact hr.elim
      | cons u us => exact ⟨(capB_sound hh hs hall this.1 hr.1).2, ih hr.2 this.2⟩
def isCloV : V1 → Bool
  | .one (.clo _ _) => true
  | _ => false
theorem argD_spec {heap : List Ob} {t : TypeId} {v x : V1} (h : argD T heap t v = some x) : ∃ (k : K) (y : k.ty), deep heap k v.ls = some y ∧
    ((∃ ls, v = .agg ls ∧ x = .agg (leaves k y)) ∨ ∃ l z, v = .one l ∧ leaves k y = [z] ∧ x = .one z) := by
  unfold argD at h
  split at h
  · split at h
    · rename_i k _
      split at h
      · rename_i y hy
        refine ⟨k, y, hy, ?_⟩
        cases v with
        | agg ls => cases h; exact .inl ⟨ls, rfl, rfl⟩
        | one l =>
          simp only at h
          split at h
          · rename_i z hz
            cases h
            exact .inr ⟨l, z, rfl, hz, rfl⟩
          · cases h
      · cases h
    · cases h
  · cases h
theorem argD_sound {heap : List Ob} (hh : RelH w Ok β heap) (hs : ∀ g, Ok g → Okc g) {t : TypeId} {v x : V1} {u : Value} (h : argD T heap t v = some x) (hr : RelV1 w Ok β v u) (hids : ∀ g, idBlk β (ownIds v.ls) g → Okc g) : RelV1 w Okc [] x u := by
  obtain ⟨k, y, hy, hx⟩ := argD_spec h
  have hdd := deep_def hy
  obtain ⟨hc, _⟩ := hr.cells hdd
  have hd : RdC w Okc k y u.cells.toList := deep_sound hh hs hy hids hc
  have hl := leaves_rel (β := []) hd
  rcases hx with ⟨ls, rfl, rfl⟩ | ⟨l, z, rfl, hz, rfl⟩
  · obtain ⟨vs, rfl, _⟩ := hr
    exact ⟨vs, rfl, hl⟩
  · rw [hz] at hl
    have h1 := (hr.to (by rintro rfl; simp [isDef] at hdd)).def1 (by rintro rfl; simp [isDef] at hdd)
    have : u.cells = #[u] := by cases u <;> simp [Value.oneCell'] at h1 <;> rfl
    rw [this] at hl
    exact RelV1.of hl.1
theorem argV_sound {heap : List Ob} (hh : RelH w Ok β heap) (hs : ∀ g, Ok g → Okc g) {t : TypeId} {v x : V1} {u : Value} (h : argV T heap t v = some x) (hr : RelV1 w Ok β v u) (hids : ∀ g, idBlk β (ownIds v.ls) g → Okc g)
    (hall : isCloV v = true → ∀ v g, v ∈ β → blkOf v = some g → Okc g) : RelV1 w Okc [] x u ∧ isDef v = true := by
  have key : argD T heap t v = some x → RelV1 w Okc [] x u ∧ isDef v = true := fun h => by
    obtain ⟨k, y, hy, _⟩ := argD_spec h
    exact ⟨argD_sound hh hs h hr hids, deep_def hy⟩
  cases v with
  | agg ls => exact key h
  | one l =>
    cases l with
    | clo f cs =>
      simp only [argV] at h
      split at h
      · rename_i ds hds
        cases h
        obtain ⟨vs, hv, hcs⟩ := hr
        exact ⟨⟨vs, hv, caps_sound hh hs (hall rfl) hds hcs⟩, rfl⟩
      · cases h
    | rp k y o =>
      simp only [argV] at h
      cases h
      exact ⟨RelRp.mono ⟨hs, fun _ _ _ h => h⟩ hr, rfl⟩
    | _ => exact key h
theorem ev1_clo {st : St} {a : Act} (r : RelS w Ok β st a.tmps.toList) {o : Operand} {Q : V1 → Prop} (h : ev1 st o Q) : ∃ v, Q v ∧ RelV1 w Ok β v (a.eval o) ∧ (isCloV v = true → isClo o st = true) := by
  cases o with
  | tmp t =>
    obtain ⟨v, hv, hq⟩ := getK_iff h
    obtain ⟨b, hb, hr⟩ := r.s.get hv
    have he : a.eval (.tmp t) = b := by
      have hb' : a.tmps[t]? = some b := by simpa using hb
      show a.tmps.getD t undef = b
      simp [hb']
    cases v with
    | v x =>
      refine ⟨x, hq, by rw [he]; exact hr, fun hc => ?_⟩
      cases x with
      | agg _ => cases hc
      | one l => cases l <;> first | (simp only [isCloV] at hc; cases hc; done) | (simp [isClo, hv])
    | tup _ => exact hq.elim
  | const c =>
    obtain ⟨x, hx, hq⟩ := someK_iff h
    refine ⟨x, hq, constV_rel hx, fun hc => ?_⟩
    unfold constV at hx
    split at hx <;> cases hx <;> cases hc
  | global _ => exact h.elim
  | func _ => exact h.elim
theorem argsK_sound {st : St} {a : Act} (r : RelS w Ok β st a.tmps.toList) : ∀ {os : List Operand} {ts : List TypeId} {Q : List V1 → List Nat → Prop}, argsK T st os ts Q →
    ∃ xs ls cs, Q xs (ownIds ls) ∧ All2 (RelL w Ok β) ls cs ∧ ∀ Okc : Nat → Prop, (∀ g, Ok g → Okc g) → (∀ g, idBlk β (ownIds ls) g → Okc g) → (os.any (isClo · st) = true → ∀ v g, v ∈ β → blkOf v = some g → Okc g) →
      All2 (RelV1 w Okc []) xs (os.map a.eval)
  | [], _, Q, h => ⟨[], [], [], h, trivial, fun _ _ _ _ => trivial⟩
  | _ :: _, [], _, h => h.elim
  | o :: os, t :: ts, Q, h => by
    obtain ⟨v, h2, hv, hcl⟩ := ev1_clo r h
    obtain ⟨x, hx, h3⟩ := someK_iff h2
    obtain ⟨xs, ls, cs, hq, hls, hargs⟩ := argsK_sound r h3
    have hd : isDef v = true := (argV_sound (Okc := fun g => Ok g ∨ ∃ v ∈ β, blkOf v = some g) r.h (fun _ => .inl) hx hv (fun g hg => by
      obtain ⟨i, _, u, hu, hb⟩ := hg
      exact .inr ⟨u, List.mem_of_getElem? hu, hb⟩) (fun _ u g hu hg => .inr ⟨u, hu, hg⟩)).2
    obtain ⟨hc, _⟩ := hv.cells hd
    refine ⟨x :: xs, v.ls ++ ls, _, by rw [ownIds_append]; exact hq, hc.append hls, fun Okc h1 h2 h3 => ⟨?_, hargs Okc h1 (fun g hg => h2 g ?_) (fun hc => h3 (by simp [hc]))⟩⟩
    · refine (argV_sound r.h h1 hx hv (fun g hg => h2 g ?_) fun hc => h3 (by simp [hcl hc])).1
      obtain ⟨i, hi, r⟩ := hg
      exact ⟨i, by rw [ownIds_append]; exact List.mem_append_left _ hi, r⟩
    · obtain ⟨i, hi, r⟩ := hg
      exact ⟨i, by rw [ownIds_append]; exact List.mem_append_right _ hi, r⟩
/-! ### back from a call -/
theorem RelRp.flatL : True := trivial
theorem shift_rel {Ok' Okn : Nat → Prop} {β1 β' : List Value} {l : Lf} {v : Value} (hf : flatL l = true ∨ ∀ g, Ok' g → Okn g) (h : RelL w Ok' β' l v) : RelL w Okn (β1 ++ β') (shiftL β1.length l) v := by
  have hget : ∀ (i : Nat) z, β'[i]? = some z → (β1 ++ β')[i + β1.length]? = some z := fun i z hz => by
    rw [List.getElem?_append_right (by omega), Nat.add_sub_cancel]; exact hz
  have hst : (∀ g, Ok' g → Okn g) → Stay w w Ok' Okn := fun h => ⟨h, fun _ _ _ h => h⟩
  cases l with
  | own i => exact ⟨hget _ _ h.1, h.2⟩
  | mp i => exact ⟨hget _ _ h.1, h.2⟩
  | ptr i o => obtain ⟨g, h1, h2⟩ := h; exact ⟨g, hget _ _ h1, h2⟩
  | ept i a z o => obtain ⟨g, o, n, c, h1, h2⟩ := h; exact ⟨g, o, n, c, hget _ _ h1, h2⟩
  | sl e k l =>
    rcases hf with hf | hf
    · cases hf
    · exact RdS.mono (e := e) (hst hf) (fun _ _ => RdC.mono (hst hf)) h
  | rp k x o =>
    rcases hf with hf | hf
    · cases hf
    · exact RelRp.mono (hst hf) h
  | clo f cs =>
    rcases hf with hf | hf
    · cases hf
    · obtain ⟨vs, h1, h2⟩ := h
      refine ⟨vs, h1, All2.map _ (h2.mono fun c u hc => ?_)⟩
      cases c with
      | id n => obtain ⟨g, h1, h2⟩ := hc; exact ⟨g, hget _ _ h1, h2⟩
      | imm k x => exact RelRp.mono (hst hf) hc
  | _ => exact h
theorem shift_v1 {Ok' Okn : Nat → Prop} {β1 β' : List Value} {x : V1} {v : Value} (hf : x.ls.all flatL = true ∨ ∀ g, Ok' g → Okn g) (h : RelV1 w Ok' β' x v) : RelV1 w Okn (β1 ++ β') (mapV1 (shiftL β1.length) x) v := by
  cases x with
  | one l =>
    by_cases hl : l = .undef
    · subst hl; trivial
    · exact RelV1.of (shift_rel (hf.imp (fun h => by simpa [V1.ls] using h) fun h => h) (h.to hl))
  | agg ls =>
    obtain ⟨vs, h1, h2⟩ := h
    refine ⟨vs, h1, All2.map _ (h2.mono_mem fun l u hl hu => shift_rel (hf.imp (fun h => ?_) fun h => h) hu)⟩
    exact List.all_eq_true.1 h l hl
theorem shift_ob {Ok' Okn : Nat → Prop} {β1 β' : List Value} {o : Ob} {v : Value} (hf : flatOb o = true ∨ ∀ g, Ok' g → Okn g) (h : RelO w Ok' β' o v) : RelO w Okn (β1 ++ β') (mapOb (shiftL β1.length) o) v := by
  cases o with
  | box t cs =>
    obtain ⟨g, cur, hv, hg, hc⟩ := h
    exact ⟨g, cur, hv, hg, All2.map _ (hc.mono_mem fun l u hl hu => shift_rel (hf.imp (fun h => List.all_eq_true.1 h l hl) fun h => h) hu)⟩
  | row e k l =>
    obtain ⟨xs, ho, hr⟩ := h
    refine ⟨xs, ho, hr.mono fun x c hx => ?_⟩
    rcases hf with hf | hf
    · exact hx.flat hf
    · exact hx.mono ⟨hf, fun _ _ _ h => h⟩
  | dead => exact h
  | iter s pos => exact h
  | map l => exact h
  | raw g o => exact h
  | frame u cs =>
    rcases hf with hf | hf
    · cases hf
    · exact ⟨h.1, All2.map _ (h.2.mono fun x v hx => RelV.mapL (shiftL β1.length) rfl (fun _ _ => shift_rel (.inr hf)) hx)⟩
theorem back_sound {st : St} {tm : List Value} (hB : ∀ g, B g → g < w0.heap.size) (r : Rel B Ok0 w0 w Ok β st tm) {ls : List Lf} {cs : List Value} (hls : All2 (RelL w Ok β) ls cs) {caps : Bool} {Okc : Nat → Prop}
    (hokc : caps = false → ∀ g, Okc g → Ok g ∨ idBlk β (ownIds ls) g) {res : List V1} {h' : List Ob} {Q : V → St → Prop} (hq : backK st (ownIds ls) caps res h' Q)
    {Ok' : Nat → Prop} {β' : List Value} {v : Value} (hret : RetV w' Ok' β' res v) (hrel : Rel (Held w []) Okc w w' Ok' β' ⟨[], h'⟩ []) :
    Grow w w' ∧ ∃ av st' Okn βn, Q av st' ∧ RelV w' Okn βn av v ∧ Rel B Ok0 w0 w' Okn βn st' tm := by
  obtain ⟨hfl, h2⟩ := ifK_iff hq
  rw [v1sK_eq, stK_eq, stK_eq] at h2
  generalize hfe : (res.all (fun v => v.ls.all flatL) && h'.all flatOb) = fl at hfl h2
  obtain ⟨β1, Ok1, r1, hOk1, hids, _, hback, hln⟩ := r.sink fl hls
  generalize sinkSt fl (ownIds ls) st = st1 at h2 r1
  have hheld : ∀ g, g < w.heap.size → Held w [] g := fun g hg => ⟨hg, fun v hv => by simp at hv⟩
  have hnew : ∀ u g, u ∈ β' → blkOf u = some g → w.heap.size ≤ g := fun u g hu hg => by
    have := hrel.wr u g hu hg
    exact Nat.le_of_not_lt fun h => this (hheld g h)
  have hold : ∀ g, g < w.heap.size → w'.heap[g]? = w.heap[g]? := fun g hg => hrel.fr.block g (hheld g hg)
  let Okn : Nat → Prop := fun g => Ok1 g ∨ (fl = false ∧ Ok' g)
  have hflat : fl = true → (∀ x ∈ res, x.ls.all flatL = true) ∧ ∀ o ∈ h', flatOb o = true := fun h => by
    rw [h] at hfe
    simp only [Bool.and_eq_true, List.all_eq_true] at hfe
    exact ⟨fun x hx => List.all_eq_true.2 (hfe.1 x hx), hfe.2⟩
  have hor : ∀ {p : Bool}, (fl = true → p = true) → p = true ∨ ∀ g, Ok' g → Okn g := fun hp => by
    cases hfl' : fl with
    | true => exact .inl (hp hfl')
    | false => exact .inr fun g hg => .inr ⟨hfl', hg⟩
  have hst1 : Stay w w' Ok1 Okn := ⟨fun _ => .inl, fun g o hg ho => by rw [hold g (r1.s.h.okLt g hg)]; exact ho⟩
  have hap : ∀ (i : Nat) u, β1[i]? = some u → (β1 ++ β')[i]? = some u := fun i u h => get_append_some h
  have hlen : st.heap.length = β1.length := by rw [hln]; exact r.len
  have hokOld : ∀ g, Ok' g → fl = false → g < w.heap.size → Ok1 g := fun g hg hf hlt => by
    have hcaps : caps = false := by rw [hf] at hfl; simpa using hfl
    rcases hrel.new g hg with h | h
    · rcases hokc hcaps g h with h | h
      · exact hOk1 g h
      · exact hids hf g h
    · exact absurd (hheld g hlt) h
  have hS : RelS w' Okn (β1 ++ β') ⟨st1.slots, st1.heap ++ h'.map (mapOb (shiftL β1.length))⟩ tm := by
    refine ⟨⟨?_, ?_, ?_, ?_, ?_⟩, r1.s.s.mono fun _ _ => RelV.mono hst1 hap⟩
    · refine All2.append (r1.s.h.objs.mono_mem' fun o u hu hou => RelO.mono hst1 hap (fun g hg => hold g (r1.s.h.lt u g hu hg)) hou) (All2.map _ (hrel.s.h.objs.mono_mem fun o u ho hou => ?_))
      exact shift_ob (hor fun h => (hflat h).2 o ho) hou
    · intro i j x y g hi hj hx hy
      rw [List.getElem?_append] at hi hj
      split at hi <;> split at hj
      · exact r1.s.h.dist i j x y g hi hj hx hy
      · have h1 := r1.s.h.lt x g (List.mem_of_getElem? hi) hx
        have h2 := hnew y g (List.mem_of_getElem? hj) hy
        omega
      · have h1 := r1.s.h.lt y g (List.mem_of_getElem? hj) hy
        have h2 := hnew x g (List.mem_of_getElem? hi) hx
        omega
      · have := hrel.s.h.dist _ _ x y g hi hj hx hy
        omega
    · intro u g hu hg
      rcases List.mem_append.1 hu with hu | hu
      · exact Nat.lt_of_lt_of_le (r1.s.h.lt u g hu hg) hrel.fr.size
      · exact hrel.s.h.lt u g hu hg
    · rintro g (hg | ⟨_, hg⟩)
      · exact Nat.lt_of_lt_of_le (r1.s.h.okLt g hg) hrel.fr.size
      · exact hrel.s.h.okLt g hg
    · intro u g hu hg
      rcases List.mem_append.1 hu with hu | hu
      · rintro (h | ⟨hf, h⟩)
        · exact r1.s.h.okNot u g hu hg h
        · exact r1.s.h.okNot u g hu hg (hokOld g h hf (r1.s.h.lt u g hu hg))
      · rintro (h | ⟨hf, h⟩)
        · have h1 := r1.s.h.okLt g h
          have h2 := hnew u g hu hg
          omega
        · exact hrel.s.h.okNot u g hu hg h
  have hR : Rel B Ok0 w0 w' Okn (β1 ++ β') ⟨st1.slots, st1.heap ++ h'.map (mapOb (shiftL β1.length))⟩ tm := by
    have hge : ∀ g, w.heap.size ≤ g → ¬ B g := fun g hg hb => by
      have h1 := hB g hb
      have h2 := r.fr.size
      omega
    refine ⟨hS, ⟨hrel.fr.os.trans r.fr.os, hrel.fr.tape.trans r.fr.tape, hrel.fr.output.trans r.fr.output, Nat.le_trans r.fr.size hrel.fr.size, fun g hg => ?_⟩, ?_, ?_, fun g hg => .inl (r1.old g hg)⟩
    · rw [hold g (Nat.lt_of_lt_of_le (hB g hg) r.fr.size)]
      exact r.fr.block g hg
    · intro u g hu hg
      rcases List.mem_append.1 hu with hu | hu
      · exact r1.wr u g hu hg
      · exact hge g (hnew u g hu hg)
    · rintro g (hg | ⟨hf, hg⟩)
      · exact r1.new g hg
      · by_cases hlt : g < w.heap.size
        · exact r1.new g (hokOld g hg hf hlt)
        · exact .inr (hge g (Nat.le_of_not_lt hlt))
  rw [hlen] at h2
  have hV : ∀ x ∈ res, ∀ u, RelV1 w' Ok' β' x u → RelV1 w' Okn (β1 ++ β') (mapV1 (shiftL β1.length) x) u := fun x hx u hu => shift_v1 (hor fun h => (hflat h).1 x hx) hu
  refine ⟨⟨hrel.fr.size, hold⟩, ?_⟩
  cases res with
  | nil => exact ⟨_, _, Okn, _, h2, trivial, hR⟩
  | cons x r =>
    cases r with
    | nil => exact ⟨_, _, Okn, _, h2, hV x (by simp) v hret, hR⟩
    | cons y r =>
      obtain ⟨vs, hv, hvs⟩ := hret
      exact ⟨_, _, Okn, _, h2, ⟨vs, hv, All2.map _ (hvs.mono_mem fun x u hx hu => hV x hx u hu)⟩, hR⟩
/-- What an operation comes to. -/
def Cond (t : Bool) (a : Act) (B Ok0 : Nat → Prop) (w0 w : World) (K : V → St → Prop) (v : Value) (w' : World) : Prop :=
  (t = true → Grow w w') ∧ ∃ av st' Ok' β', K av st' ∧ RelV w' Ok' β' av v ∧ Rel B Ok0 w0 w' Ok' β' st' a.tmps.toList
def Done (P : Program) (o : Oper) (a : Act) (w : World) (R : Value → World → Prop) : Prop :=
  match (execOp a.eval o).run P w with
  | .ok (.value v) w' => R v w'
  | .ok .skip w' => R undef w'
  | .ok (.enter f args) w' => Calls P f args w' fun
    | .returned v, w'' => R v w''
    | _, _ => False
  | _ => False
theorem After.done {o : Oper} {a : Act} {K : V → St → Prop} (h : After P o a B Ok0 w0 w K) : Done P o a w (Cond (tame o) a B Ok0 w0 w K) := by
  obtain ⟨v, w', hr, hc⟩ := h
  rcases hr with hr | ⟨hr, rfl⟩ <;> (unfold Done; rw [hr]; exact hc)
theorem call_done (hE : EnvOk P E) {o : Oper} {a : Act} (hB : ∀ g, B g → g < w0.heap.size) {st : St} (r : Rel B Ok0 w0 w Ok β st a.tmps.toList) {f : FuncId} {p : PT} (hp : elook E f = some p) {xs : List V1} {vals : List Value} {ls : List Lf} {cs : List Value}
    (hls : All2 (RelL w Ok β) ls cs) {caps : Bool} {K : V → St → Prop} (h : p xs [] fun res h' => backK st (ownIds ls) caps res h' K) {Okc : Nat → Prop} (hokc : caps = false → ∀ g, Okc g → Ok g ∨ idBlk β (ownIds ls) g) (hlt : ∀ g, Okc g → g < w.heap.size)
    (hx : All2 (RelV1 w Okc []) xs vals) (hrun : (execOp a.eval o).run P w = .ok (.enter f vals.toArray) w) : Done P o a w (Cond (tame o) a B Ok0 w0 w K) := by
  unfold Done
  rw [hrun]
  have := (hE f p hp).1 xs [] _ h w Okc [] vals hx ⟨trivial, fun i j v u g hi => by simp at hi, fun v g hv => by simp at hv, hlt, fun v g hv => by simp at hv⟩
  refine Calls.mono this fun e w' he => ?_
  cases e with
  | returned v =>
    obtain ⟨res, h', Ok', β', hq, hret, hrel⟩ := he
    obtain ⟨h1, h2⟩ := back_sound hB r hls hokc hq hret hrel
    exact ⟨fun _ => h1, h2⟩
  | panicked _ => exact he
  | outgrown => exact he
theorem blocks_lt {st : St} {tm : List Value} (r : RelS w Ok β st tm) {ids : List Nat} : ∀ g, Ok g ∨ idBlk β ids g → g < w.heap.size := by
  rintro g (h | ⟨i, _, v, hv, hb⟩)
  · exact r.h.okLt g h
  · exact r.h.lt v g (List.mem_of_getElem? hv) hb
/-- ONE OPERATION. -/
theorem aop_done (hT : ttOk P T = true) (hE : EnvOk P E) (hB : ∀ g, B g → g < w0.heap.size) {o : Oper} {st : St} {a : Act} (r : Rel B Ok0 w0 w Ok β st a.tmps.toList) {K : V → St → Prop} (h : aop T E o st K) : Done P o a w (Cond (tame o) a B Ok0 w0 w K) := by
  cases hact : isAct o with
  | false =>
    obtain ⟨av, v, hq, hr, hp⟩ := aop_pure (E := E) hT hact r.s h
    unfold Done
    rw [hp w fun _ => .refl w]
    exact ⟨fun _ => .refl w, av, st, Ok, β, hq, hr, r⟩
  | true =>
    cases hop : o.op with
    | assign x => exact (aop_assign hT hB hop r h).done
    | alloc t => exact (aop_alloc hT hB hop r h).done
    | box t x => exact (aop_box hT hB hop r h).done
    | store t p x => exact (aop_store hT hB hop r h).done
    | makeSlice t x y => exact (aop_makeSlice hT hB hop r h).done
    | buildSlice t n ps => exact (aop_buildSlice hT hB hop r h).done
    | range t x => exact (aop_range hT hB hop r h).done
    | nilCheck x => exact (aop_nilCheck hop r h).done
    | slice t x lo hi mx =>
      rcases lo with _ | lo
      · simp [isAct, clsOf, hop] at hact
      · cases lo with
        | const c =>
          rcases hi with _ | hi
          · rcases mx with _ | mx
            · exact (aop_sliceOwn hT hB hop r h).done
            · simp [isAct, clsOf, hop] at hact
          · simp [isAct, clsOf, hop] at hact
        | _ => simp [isAct, clsOf, hop] at hact
    | next x b =>
      cases b with
      | true => exact (aop_next hB hop r h).done
      | false => simp only [aop, hop] at h
    | makeMap t x =>
      cases x with
      | none => exact (aop_makeMap hB hop r h).done
      | some _ => simp only [aop, hop] at h
    | insert t m k x => exact (mapPut_sound hT hB (.inl hop) r (by simpa only [aop, hop] using h)).done
    | mapUpdate t m k x => exact (mapPut_sound hT hB (.inr hop) r (by simpa only [aop, hop] using h)).done
    | lookup t x k b =>
      cases b with
      | false => exact (aop_lookup hT hop r h).done
      | true => simp only [aop, hop] at h
    | call c =>
      cases hcal : c.callee with
      | builtin b =>
        cases b with
        | append => exact (aop_append hT hB hop hcal r h).done
        | copy => exact (aop_copy hT hB hop hcal r h).done
        | len => simp [isAct, clsOf, hop, hcal] at hact
        | _ => simp only [aop, hop, hcal, callK] at h
      | invoke _ _ => simp only [aop, hop, hcal, callK] at h
      | value fo =>
        cases fo with
        | func f =>
          simp only [aop, hop, hcal, callK] at h
          obtain ⟨p, hp, h2⟩ := someK_iff h
          obtain ⟨xs, ls, cs, hq, hls, hargs⟩ := argsK_sound r.s h2
          have hrun : (execOp a.eval o).run P w = .ok (.enter f (c.args.toList.map a.eval).toArray) w := by
            have hent := (hE f p hp).2
            have e1 : (c.args.toList.map a.eval).toArray = c.args.map a.eval := by apply Array.ext'; simp
            rw [e1]
            have := run_callFunc hent (c.args.map a.eval) w
            simp [execOp, hop, resolve, hcal, Deferred.ofValue, Act.eval, invoke, this]
          cases hcl : c.args.toList.any (isClo · st) with
          | false =>
            rw [hcl] at hq
            exact call_done hE hB r hp hls hq (Okc := fun g => Ok g ∨ idBlk β (ownIds ls) g) (fun _ g h => h) (blocks_lt r.s) (hargs _ (fun _ => .inl) (fun _ => .inr) (by simp [hcl])) hrun
          | true =>
            rw [hcl] at hq
            exact call_done hE hB r hp hls hq (Okc := fun g => g < w.heap.size) (by simp) (fun _ h => h) (hargs _ (fun g hg => r.s.h.okLt g hg) (fun g hg => blocks_lt r.s g (.inr hg)) (fun _ v g hv hg => r.s.h.lt v g hv hg)) hrun
        | tmp t =>
          simp only [aop, hop, hcal, callK] at h
          obtain ⟨v, hv, h2⟩ := getK_iff h
          obtain ⟨b, hb, hr⟩ := r.s.s.get hv
          have he : a.eval (.tmp t) = b := by
            have hb' : a.tmps[t]? = some b := by simpa using hb
            show a.tmps.getD t undef = b
            simp [hb']
          split at h2
          · rename_i f cs0
            obtain ⟨p, hp, h3⟩ := someK_iff h2
            obtain ⟨xs, ls, cs, hq, hls, hargs⟩ := argsK_sound r.s h3
            obtain ⟨ds, hds, h4⟩ := someK_iff hq
            obtain ⟨ps, hps, h5⟩ := someK_iff h4
            obtain ⟨vs, hbv, hcs⟩ := hr
            have hcaps := caps_sound (Okc := fun g => g < w.heap.size) r.s.h (fun g hg => r.s.h.okLt g hg) (fun v g hv hg => r.s.h.lt v g hv hg) hds hcs
            have hps2 : All2 (RelV1 w (fun g => g < w.heap.size) []) (ps.map .one) vs.toList := by
              have hm := mapM_all2 hps
              refine All2.map _ ?_
              clear hps h5 hds h4
              revert hcaps
              generalize vs.toList = us
              intro hcaps
              induction ps generalizing ds us with
              | nil =>
                cases ds with
                | nil => rw [hcaps.nil_left]; trivial
                | cons _ _ => exact hm.elim
              | cons p ps ih =>
                cases ds with
                | nil => exact hm.elim
                | cons d ds =>
                  cases us with
                  | nil => exact hcaps.elim
                  | cons u us =>
                    refine ⟨?_, ih (ds := ds) (us := us) hm.2 hcaps.2⟩
                    have h1 := hm.1
                    cases d with
                    | id _ => cases h1
                    | imm k x => cases h1; exact hcaps.1
            have hrun : (execOp a.eval o).run P w = .ok (.enter f (c.args.toList.map a.eval ++ vs.toList).toArray) w := by
              have hent := (hE f p hp).2
              have e1 : (c.args.toList.map a.eval ++ vs.toList).toArray = c.args.map a.eval ++ vs := by apply Array.ext'; simp
              rw [e1]
              have := run_callFunc hent (c.args.map a.eval ++ vs) w
              simp only [execOp, hop, resolve, hcal, he, hbv, Deferred.ofValue]
              simp [invoke, this]
            exact call_done hE hB r hp hls h5 (Okc := fun g => g < w.heap.size) (by simp) (fun _ h => h)
              ((hargs _ (fun g hg => r.s.h.okLt g hg) (fun g hg => blocks_lt r.s g (.inr hg)) (fun _ v g hv hg => r.s.h.lt v g hv hg)).append hps2) hrun
          · exact h2.elim
        | _ => simp only [aop, hop, hcal, callK] at h
    | _ => first | (simp [isAct, clsOf, hop] at hact; done) | (simp [aop, hop] at h; done)
end
end Go.AM
