/- What the law's row leans on, part 2: an abstract machine over loaded code, functions of the program and their specs. Conditions: none. -/
import Derived.Below
import Derived.Deep.Draws
import Derived.Laws.MakeOwn
import Derived.OrdersHeld
import Derived.KernelRfl
import Derived.Laws.Small
import Derived.Laws.Cover3
import Derived.Laws.RangeAny
import Derived.Laws.Strings
import Derived.Great.BuildSlice
import Derived.MapKept
import Derived.Deep.LoopGhost
import Derived.OrdersIn
import Derived.TacticsIn
import Derived.RangeFuncNested
import Derived.Lib.SlicesS
import Derived.Test.YtlfelhdcokadbaaProg
import Derived.Test.YtlfelhdcokadbaaM1
set_option linter.all false
namespace Go.AM
open Go.RowKit
def RetV (w : World) (Ok : Nat → Prop) (β : List Value) (res : List V1) (v : Value) : Prop :=
  match res with
  | [x] => RelV1 w Ok β x v
  | [] => True
  | xs => ∃ vs : Array Value, v = .tuple vs ∧ All2 (RelV1 w Ok β) xs vs.toList
/-- What must stay through a call: what stood there, but for what was handed over. -/
def Held (w0 : World) (β0 : List Value) (g : Nat) : Prop := g < w0.heap.size ∧ ∀ v ∈ β0, blkOf v ≠ some g
def Ret (w0 : World) (Ok0 : Nat → Prop) (β0 : List Value) (K : List V1 → List Ob → Prop) : Ending → World → Prop
  | .returned v, w' => ∃ res h' Ok' β', K res h' ∧ RetV w' Ok' β' res v ∧ Rel (Held w0 β0) Ok0 w0 w' Ok' β' ⟨[], h'⟩ []
  | _, _ => False
/-- A function does what its spec says. -/
def SpecOk (P : Program) (f : FuncId) (p : PT) : Prop :=
  ∀ args h K, p args h K → ∀ (w0 : World) (Ok0 : Nat → Prop) (β0 vals : List Value), All2 (RelV1 w0 Ok0 β0) args vals → RelH w0 Ok0 β0 h → Calls P f vals.toArray w0 (Ret w0 Ok0 β0 K)
def entersB (P : Program) (f : FuncId) : Bool :=
  match P.funcs[f]? with
  | some fn => fn.name != "runtime.NumGoroutine" && fn.body.isSome
  | none => false
def EnvOk (P : Program) (E : Env) : Prop := ∀ f p, elook E f = some p → SpecOk P f p ∧ entersB P f = true

section
variable {P : Program} {T : TT} {E : Env} {w w' w0 : World} {B Ok0 Ok Okc : Nat → Prop} {β : List Value}
theorem run_callFunc {f : FuncId} (h : entersB P f = true) (args : Array Value) (w : World) : (callFunc f args).run P w = .ok (.enter f args) w := by
  unfold entersB at h
  split at h
  · rename_i fn hf
    simp only [Bool.and_eq_true, bne_iff_ne, ne_eq] at h
    have h2 : fn.body ≠ none := by intro hb; simp [hb] at h
    simp [callFunc, hf, h.1, h2]
  · cases h
/-- Captured boxes, as data that is only read. -/
theorem capB_sound {heap : List Ob} (hh : RelH w Ok β heap) (hs : ∀ g, Ok g → Okc g) (hall : ∀ v g, v ∈ β → blkOf v = some g → Okc g) {c d : Cap} {u : Value} (h : capB T heap c = some d) (hr : RelCap w Ok β c u) :
    (∃ k x, d = .imm k x) ∧ RelCap w Okc [] d u := by
  cases c with
  | imm k x =>
    simp only [capB] at h
    cases h
    exact ⟨⟨k, x, rfl⟩, RelRp.mono ⟨hs, fun _ _ _ h => h⟩ hr⟩
  | id n =>
    simp only [capB] at h
    split at h
    · rename_i t cs ho
      split at h
      · rename_i i hi
        split at h
        · rename_i k hk
          split at h
          · rename_i x hx
            cases h
            refine ⟨⟨k, x, rfl⟩, ?_⟩
            obtain ⟨b, hb, hro⟩ := hh.obj ho
            obtain ⟨g, cur, hbv, hg, hcs⟩ := hro
            obtain ⟨g', hb', hu⟩ := hr
            rw [hb, hbv] at hb'
            obtain rfl : g = g' := by cases hb'; rfl
            have hd : RdC w Okc k x cur.toList := deep_sound hh hs hx (fun g' hg' => by
              obtain ⟨i, _, v, hv, hbk⟩ := hg'
              exact hall v g' (List.mem_of_getElem? hv) hbk) hcs
            have hlen := hd.len
            refine ⟨g, 0, cur, t, (0, 0), by rw [hu], hall b g (List.mem_of_getElem? hb) (by rw [hbv]; rfl), hg, by rw [Array.length_toList] at hlen; omega, ?_⟩
            rw [List.drop_zero, List.take_of_length_le (by omega)]
            exact hd
          · cases h
        · cases h
      · cases h
    · cases h
theorem caps_sound {heap : List Ob} (hh : RelH w Ok β heap) (hs : ∀ g, Ok g → Okc g) (hall : ∀ v g, v ∈ β → blkOf v = some g → Okc g) {cs ds : List Cap} {us : List Value} (h : cs.mapM (capB T heap) = some ds) (hr : All2 (RelCap w Ok β) cs us) :
    All2 (RelCap w Okc []) ds us := by
  have := mapM_all2 h
  clear h
  induction ds generalizing cs us with
  | nil =>
    cases cs with
    | nil => rw [hr.nil_left]; trivial
    | cons _ _ => exact this.elim
  | cons d ds ih =>
    cases cs with
    | nil => exact this.elim
    | cons c cs =>
      cases us with
      | nil => exact hr.elim
      | cons u us => exact ⟨(capB_sound hh hs hall this.1 hr.1).2, ih hr.2 this.2⟩
def isCloV : V1 → Bool
  | .one (.clo _ _) => true
  | _ => false
theorem argD_spec {heap : List Ob} {t : TypeId} {v x : V1} (h : argD T heap t v = some x) : ∃ (k : K) (y : k.ty), deep heap k v.ls = some y ∧
    ((∃ ls, v = .agg ls ∧ x = .agg (leaves k y)) ∨ ∃ l z, v = .one l ∧ leaves k y = [z] ∧ x = .one z) := by
  unfold argD at h
  split at h
  · split at h
    · rename_i k _
      split at h
      · rename_i y hy
        refine ⟨k, y, hy, ?_⟩
        cases v with
        | agg ls => cases h; exact .inl ⟨ls, rfl, rfl⟩
        | one l =>
          simp only at h
          split at h
          · rename_i z hz
            cases h
            exact .inr ⟨l, z, rfl, hz, rfl⟩
          · cases h
      · cases h
    · cases h
  · cases h
theorem argD_sound {heap : List Ob} (hh : RelH w Ok β heap) (hs : ∀ g, Ok g → Okc g) {t : TypeId} {v x : V1} {u : Value} (h : argD T heap t v = some x) (hr : RelV1 w Ok β v u) (hids : ∀ g, idBlk β (ownIds v.ls) g → Okc g) : RelV1 w Okc [] x u := by
  obtain ⟨k, y, hy, hx⟩ := argD_spec h
  have hdd := deep_def hy
  obtain ⟨hc, _⟩ := hr.cells hdd
  have hd : RdC w Okc k y u.cells.toList := deep_sound hh hs hy hids hc
  have hl := leaves_rel (β := []) hd
  rcases hx with ⟨ls, rfl, rfl⟩ | ⟨l, z, rfl, hz, rfl⟩
  · obtain ⟨vs, rfl, _⟩ := hr
    exact ⟨vs, rfl, hl⟩
  · rw [hz] at hl
    have h1 := (hr.to (by rintro rfl; simp [isDef] at hdd)).def1 (by rintro rfl; simp [isDef] at hdd)
    have : u.cells = #[u] := by cases u <;> simp [Value.oneCell'] at h1 <;> rfl
    rw [this] at hl
    exact RelV1.of hl.1
theorem argV_sound {heap : List Ob} (hh : RelH w Ok β heap) (hs : ∀ g, Ok g → Okc g) {t : TypeId} {v x : V1} {u : Value} (h : argV T heap t v = some x) (hr : RelV1 w Ok β v u) (hids : ∀ g, idBlk β (ownIds v.ls) g → Okc g)
    (hall : isCloV v = true → ∀ v g, v ∈ β → blkOf v = some g → Okc g) : RelV1 w Okc [] x u ∧ isDef v = true := by
  have key : argD T heap t v = some x → RelV1 w Okc [] x u ∧ isDef v = true := fun h => by
    obtain ⟨k, y, hy, _⟩ := argD_spec h
    exact ⟨argD_sound hh hs h hr hids, deep_def hy⟩
  cases v with
  | agg ls => exact key h
  | one l =>
    cases l with
    | clo f cs =>
      simp only [argV] at h
      split at h
      · rename_i ds hds
        cases h
        obtain ⟨vs, hv, hcs⟩ := hr
        exact ⟨⟨vs, hv, caps_sound hh hs (hall rfl) hds hcs⟩, rfl⟩
      · cases h
    | rp k y o =>
      simp only [argV] at h
      cases h
      exact ⟨RelRp.mono ⟨hs, fun _ _ _ h => h⟩ hr, rfl⟩
    | _ => exact key h
theorem ev1_clo {st : St} {a : Act} (r : RelS w Ok β st a.tmps.toList) {o : Operand} {Q : V1 → Prop} (h : ev1 st o Q) : ∃ v, Q v ∧ RelV1 w Ok β v (a.eval o) ∧ (isCloV v = true → isClo o st = true) := by
  cases o with
  | tmp t =>
    obtain ⟨v, hv, hq⟩ := getK_iff h
    obtain ⟨b, hb, hr⟩ := r.s.get hv
    have he : a.eval (.tmp t) = b := by
      have hb' : a.tmps[t]? = some b := by simpa using hb
      show a.tmps.getD t undef = b
      simp [hb']
    cases v with
    | v x =>
      refine ⟨x, hq, by rw [he]; exact hr, fun hc => ?_⟩
      cases x with
      | agg _ => cases hc
      | one l => cases l <;> first | (simp only [isCloV] at hc; cases hc; done) | (simp [isClo, hv])
    | tup _ => exact hq.elim
  | const c =>
    obtain ⟨x, hx, hq⟩ := someK_iff h
    refine ⟨x, hq, constV_rel hx, fun hc => ?_⟩
    unfold constV at hx
    split at hx <;> cases hx <;> cases hc
  | global _ => exact h.elim
  | func _ => exact h.elim
theorem argsK_sound {st : St} {a : Act} (r : RelS w Ok β st a.tmps.toList) : ∀ {os : List Operand} {ts : List TypeId} {Q : List V1 → List Nat → Prop}, argsK T st os ts Q →
    ∃ xs ls cs, Q xs (ownIds ls) ∧ All2 (RelL w Ok β) ls cs ∧ ∀ Okc : Nat → Prop, (∀ g, Ok g → Okc g) → (∀ g, idBlk β (ownIds ls) g → Okc g) → (os.any (isClo · st) = true → ∀ v g, v ∈ β → blkOf v = some g → Okc g) →
      All2 (RelV1 w Okc []) xs (os.map a.eval)
  | [], _, Q, h => ⟨[], [], [], h, trivial, fun _ _ _ _ => trivial⟩
  | _ :: _, [], _, h => h.elim
  | o :: os, t :: ts, Q, h => by
    obtain ⟨v, h2, hv, hcl⟩ := ev1_clo r h
    obtain ⟨x, hx, h3⟩ := someK_iff h2
    obtain ⟨xs, ls, cs, hq, hls, hargs⟩ := argsK_sound r h3
    have hd : isDef v = true := (argV_sound (Okc := fun g => Ok g ∨ ∃ v ∈ β, blkOf v = some g) r.h (fun _ => .inl) hx hv (fun g hg => by
      obtain ⟨i, _, u, hu, hb⟩ := hg
      exact .inr ⟨u, List.mem_of_getElem? hu, hb⟩) (fun _ u g hu hg => .inr ⟨u, hu, hg⟩)).2
    obtain ⟨hc, _⟩ := hv.cells hd
    refine ⟨x :: xs, v.ls ++ ls, _, by rw [ownIds_append]; exact hq, hc.append hls, fun Okc h1 h2 h3 => ⟨?_, hargs Okc h1 (fun g hg => h2 g ?_) (fun hc => h3 (by simp [hc]))⟩⟩
    · refine (argV_sound r.h h1 hx hv (fun g hg => h2 g ?_) fun hc => h3 (by simp [hcl hc])).1
      obtain ⟨i, hi, r⟩ := hg
      exact ⟨i, by rw [ownIds_append]; exact List.mem_append_left _ hi, r⟩
    · obtain ⟨i, hi, r⟩ := hg
      exact ⟨i, by rw [ownIds_append]; exact List.mem_append_right _ hi, r⟩
/-! ### back from a call -/
theorem RelRp.flatL : True := trivial
theorem shift_rel {Ok' Okn : Nat → Prop} {β1 β' : List Value} {l : Lf} {v : Value} (hf : flatL l = true ∨ ∀ g, Ok' g → Okn g) (h : RelL w Ok' β' l v) : RelL w Okn (β1 ++ β') (shiftL β1.length l) v := by
  have hget : ∀ (i : Nat) z, β'[i]? = some z → (β1 ++ β')[i + β1.length]? = some z := fun i z hz => by
    rw [List.getElem?_append_right (by omega), Nat.add_sub_cancel]; exact hz
  have hst : (∀ g, Ok' g → Okn g) → Stay w w Ok' Okn := fun h => ⟨h, fun _ _ _ h => h⟩
  cases l with
  | own i => exact ⟨hget _ _ h.1, h.2⟩
  | mp i => exact ⟨hget _ _ h.1, h.2⟩
  | ptr i o => obtain ⟨g, h1, h2⟩ := h; exact ⟨g, hget _ _ h1, h2⟩
  | ept i a z o => obtain ⟨g, o, n, c, h1, h2⟩ := h; exact ⟨g, o, n, c, hget _ _ h1, h2⟩
  | sl e k l =>
    rcases hf with hf | hf
    · cases hf
    · exact RdS.mono (e := e) (hst hf) (fun _ _ => RdC.mono (hst hf)) h
  | rp k x o =>
    rcases hf with hf | hf
    · cases hf
    · exact RelRp.mono (hst hf) h
  | clo f cs =>
    rcases hf with hf | hf
    · cases hf
    · obtain ⟨vs, h1, h2⟩ := h
      refine ⟨vs, h1, All2.map _ (h2.mono fun c u hc => ?_)⟩
      cases c with
      | id n => obtain ⟨g, h1, h2⟩ := hc; exact ⟨g, hget _ _ h1, h2⟩
      | imm k x => exact RelRp.mono (hst hf) hc
  | _ => exact h
theorem shift_v1 {Ok' Okn : Nat → Prop} {β1 β' : List Value} {x : V1} {v : Value} (hf : x.ls.all flatL = true ∨ ∀ g, Ok' g → Okn g) (h : RelV1 w Ok' β' x v) : RelV1 w Okn (β1 ++ β') (mapV1 (shiftL β1.length) x) v := by
  cases x with
  | one l =>
    by_cases hl : l = .undef
    · subst hl; trivial
    · exact RelV1.of (shift_rel (hf.imp (fun h => by simpa [V1.ls] using h) fun h => h) (h.to hl))
  | agg ls =>
    obtain ⟨vs, h1, h2⟩ := h
    refine ⟨vs, h1, All2.map _ (h2.mono_mem fun l u hl hu => shift_rel (hf.imp (fun h => ?_) fun h => h) hu)⟩
    exact List.all_eq_true.1 h l hl
theorem shift_ob {Ok' Okn : Nat → Prop} {β1 β' : List Value} {o : Ob} {v : Value} (hf : flatOb o = true ∨ ∀ g, Ok' g → Okn g) (h : RelO w Ok' β' o v) : RelO w Okn (β1 ++ β') (mapOb (shiftL β1.length) o) v := by
  cases o with
  | box t cs =>
    obtain ⟨g, cur, hv, hg, hc⟩ := h
    exact ⟨g, cur, hv, hg, All2.map _ (hc.mono_mem fun l u hl hu => shift_rel (hf.imp (fun h => List.all_eq_true.1 h l hl) fun h => h) hu)⟩
  | row e k l =>
    obtain ⟨xs, ho, hr⟩ := h
    refine ⟨xs, ho, hr.mono fun x c hx => ?_⟩
    rcases hf with hf | hf
    · exact hx.flat hf
    · exact hx.mono ⟨hf, fun _ _ _ h => h⟩
  | dead => exact h
  | iter s pos => exact h
  | map l => exact h
  | raw g o => exact h
  | frame u cs =>
    rcases hf with hf | hf
    · cases hf
    · exact ⟨h.1, All2.map _ (h.2.mono fun x v hx => RelV.mapL (shiftL β1.length) rfl (fun _ _ => shift_rel (.inr hf)) hx)⟩
theorem back_sound {st : St} {tm : List Value} (hB : ∀ g, B g → g < w0.heap.size) (r : Rel B Ok0 w0 w Ok β st tm) {ls : List Lf} {cs : List Value} (hls : All2 (RelL w Ok β) ls cs) {caps : Bool} {Okc : Nat → Prop}
    (hokc : caps = false → ∀ g, Okc g → Ok g ∨ idBlk β (ownIds ls) g) {res : List V1} {h' : List Ob} {Q : V → St → Prop} (hq : backK st (ownIds ls) caps res h' Q)
    {Ok' : Nat → Prop} {β' : List Value} {v : Value} (hret : RetV w' Ok' β' res v) (hrel : Rel (Held w []) Okc w w' Ok' β' ⟨[], h'⟩ []) :
    Grow w w' ∧ ∃ av st' Okn βn, Q av st' ∧ RelV w' Okn βn av v ∧ Rel B Ok0 w0 w' Okn βn st' tm := by
  obtain ⟨hfl, h2⟩ := ifK_iff hq
  rw [v1sK_eq, stK_eq, stK_eq] at h2
  generalize hfe : (res.all (fun v => v.ls.all flatL) && h'.all flatOb) = fl at hfl h2
  obtain ⟨β1, Ok1, r1, hOk1, hids, _, hback, hln⟩ := r.sink fl hls
  generalize sinkSt fl (ownIds ls) st = st1 at h2 r1
  have hheld : ∀ g, g < w.heap.size → Held w [] g := fun g hg => ⟨hg, fun v hv => by simp at hv⟩
  have hnew : ∀ u g, u ∈ β' → blkOf u = some g → w.heap.size ≤ g := fun u g hu hg => by
    have := hrel.wr u g hu hg
    exact Nat.le_of_not_lt fun h => this (hheld g h)
  have hold : ∀ g, g < w.heap.size → w'.heap[g]? = w.heap[g]? := fun g hg => hrel.fr.block g (hheld g hg)
  let Okn : Nat → Prop := fun g => Ok1 g ∨ (fl = false ∧ Ok' g)
  have hflat : fl = true → (∀ x ∈ res, x.ls.all flatL = true) ∧ ∀ o ∈ h', flatOb o = true := fun h => by
    rw [h] at hfe
    simp only [Bool.and_eq_true, List.all_eq_true] at hfe
    exact ⟨fun x hx => List.all_eq_true.2 (hfe.1 x hx), hfe.2⟩
  have hor : ∀ {p : Bool}, (fl = true → p = true) → p = true ∨ ∀ g, Ok' g → Okn g := fun hp => by
    cases hfl' : fl with
    | true => exact .inl (hp hfl')
    | false => exact .inr fun g hg => .inr ⟨hfl', hg⟩
  have hst1 : Stay w w' Ok1 Okn := ⟨fun _ => .inl, fun g o hg ho => by rw [hold g (r1.s.h.okLt g hg)]; exact ho⟩
  have hap : ∀ (i : Nat) u, β1[i]? = some u → (β1 ++ β')[i]? = some u := fun i u h => get_append_some h
  have hlen : st.heap.length = β1.length := by rw [hln]; exact r.len
  have hokOld : ∀ g, Ok' g → fl = false → g < w.heap.size → Ok1 g := fun g hg hf hlt => by
    have hcaps : caps = false := by rw [hf] at hfl; simpa using hfl
    rcases hrel.new g hg with h | h
    · rcases hokc hcaps g h with h | h
      · exact hOk1 g h
      · exact hids hf g h
    · exact absurd (hheld g hlt) h
  have hS : RelS w' Okn (β1 ++ β') ⟨st1.slots, st1.heap ++ h'.map (mapOb (shiftL β1.length))⟩ tm := by
    refine ⟨⟨?_, ?_, ?_, ?_, ?_⟩, r1.s.s.mono fun _ _ => RelV.mono hst1 hap⟩
    · refine All2.append (r1.s.h.objs.mono_mem' fun o u hu hou => RelO.mono hst1 hap (fun g hg => hold g (r1.s.h.lt u g hu hg)) hou) (All2.map _ (hrel.s.h.objs.mono_mem fun o u ho hou => ?_))
      exact shift_ob (hor fun h => (hflat h).2 o ho) hou
    · intro i j x y g hi hj hx hy
      rw [List.getElem?_append] at hi hj
      split at hi <;> split at hj
      · exact r1.s.h.dist i j x y g hi hj hx hy
      · have h1 := r1.s.h.lt x g (List.mem_of_getElem? hi) hx
        have h2 := hnew y g (List.mem_of_getElem? hj) hy
        omega
      · have h1 := r1.s.h.lt y g (List.mem_of_getElem? hj) hy
        have h2 := hnew x g (List.mem_of_getElem? hi) hx
        omega
      · have := hrel.s.h.dist _ _ x y g hi hj hx hy
        omega
    · intro u g hu hg
      rcases List.mem_append.1 hu with hu | hu
      · exact Nat.lt_of_lt_of_le (r1.s.h.lt u g hu hg) hrel.fr.size
      · exact hrel.s.h.lt u g hu hg
    · rintro g (hg | ⟨_, hg⟩)
      · exact Nat.lt_of_lt_of_le (r1.s.h.okLt g hg) hrel.fr.size
      · exact hrel.s.h.okLt g hg
    · intro u g hu hg
      rcases List.mem_append.1 hu with hu | hu
      · rintro (h | ⟨hf, h⟩)
        · exact r1.s.h.okNot u g hu hg h
        · exact r1.s.h.okNot u g hu hg (hokOld g h hf (r1.s.h.lt u g hu hg))
      · rintro (h | ⟨hf, h⟩)
        · have h1 := r1.s.h.okLt g h
          have h2 := hnew u g hu hg
          omega
        · exact hrel.s.h.okNot u g hu hg h
  have hR : Rel B Ok0 w0 w' Okn (β1 ++ β') ⟨st1.slots, st1.heap ++ h'.map (mapOb (shiftL β1.length))⟩ tm := by
    have hge : ∀ g, w.heap.size ≤ g → ¬ B g := fun g hg hb => by
      have h1 := hB g hb
      have h2 := r.fr.size
      omega
    refine ⟨hS, ⟨hrel.fr.os.trans r.fr.os, hrel.fr.tape.trans r.fr.tape, hrel.fr.output.trans r.fr.output, Nat.le_trans r.fr.size hrel.fr.size, fun g hg => ?_⟩, ?_, ?_, fun g hg => .inl (r1.old g hg)⟩
    · rw [hold g (Nat.lt_of_lt_of_le (hB g hg) r.fr.size)]
      exact r.fr.block g hg
    · intro u g hu hg
      rcases List.mem_append.1 hu with hu | hu
      · exact r1.wr u g hu hg
      · exact hge g (hnew u g hu hg)
    · rintro g (hg | ⟨hf, hg⟩)
      · exact r1.new g hg
      · by_cases hlt : g < w.heap.size
        · exact r1.new g (hokOld g hg hf hlt)
        · exact .inr (hge g (Nat.le_of_not_lt hlt))
  rw [hlen] at h2
  have hV : ∀ x ∈ res, ∀ u, RelV1 w' Ok' β' x u → RelV1 w' Okn (β1 ++ β') (mapV1 (shiftL β1.length) x) u := fun x hx u hu => shift_v1 (hor fun h => (hflat h).1 x hx) hu
  refine ⟨⟨hrel.fr.size, hold⟩, ?_⟩
  cases res with
  | nil => exact ⟨_, _, Okn, _, h2, trivial, hR⟩
  | cons x r =>
    cases r with
    | nil => exact ⟨_, _, Okn, _, h2, hV x (by simp) v hret, hR⟩
    | cons y r =>
      obtain ⟨vs, hv, hvs⟩ := hret
      exact ⟨_, _, Okn, _, h2, ⟨vs, hv, All2.map _ (hvs.mono_mem fun x u hx hu => hV x hx u hu)⟩, hR⟩
/-- What an operation comes to. -/
def Cond (t : Bool) (a : Act) (B Ok0 : Nat → Prop) (w0 w : World) (K : V → St → Prop) (v : Value) (w' : World) : Prop :=
  (t = true → Grow w w') ∧ ∃ av st' Ok' β', K av st' ∧ RelV w' Ok' β' av v ∧ Rel B Ok0 w0 w' Ok' β' st' a.tmps.toList
def Done (P : Program) (o : Oper) (a : Act) (w : World) (R : Value → World → Prop) : Prop :=
  match (execOp a.eval o).run P w with
  | .ok (.value v) w' => R v w'
  | .ok .skip w' => R undef w'
  | .ok (.enter f args) w' => Calls P f args w' fun
    | .returned v, w'' => R v w''
    | _, _ => False
  | _ => False
theorem After.done {o : Oper} {a : Act} {K : V → St → Prop} (h : After P o a B Ok0 w0 w K) : Done P o a w (Cond (tame o) a B Ok0 w0 w K) := by
  obtain ⟨v, w', hr, hc⟩ := h
  rcases hr with hr | ⟨hr, rfl⟩ <;> (unfold Done; rw [hr]; exact hc)
theorem call_done (hE : EnvOk P E) {o : Oper} {a : Act} (hB : ∀ g, B g → g < w0.heap.size) {st : St} (r : Rel B Ok0 w0 w Ok β st a.tmps.toList) {f : FuncId} {p : PT} (hp : elook E f = some p) {xs : List V1} {vals : List Value} {ls : List Lf} {cs : List Value}
    (hls : All2 (RelL w Ok β) ls cs) {caps : Bool} {K : V → St → Prop} (h : p xs [] fun res h' => backK st (ownIds ls) caps res h' K) {Okc : Nat → Prop} (hokc : caps = false → ∀ g, Okc g → Ok g ∨ idBlk β (ownIds ls) g) (hlt : ∀ g, Okc g → g < w.heap.size)
    (hx : All2 (RelV1 w Okc []) xs vals) (hrun : (execOp a.eval o).run P w = .ok (.enter f vals.toArray) w) : Done P o a w (Cond (tame o) a B Ok0 w0 w K) := by
  unfold Done
  rw [hrun]
  have := (hE f p hp).1 xs [] _ h w Okc [] vals hx ⟨trivial, fun i j v u g hi => by simp at hi, fun v g hv => by simp at hv, hlt, fun v g hv => by simp at hv⟩
  refine Calls.mono this fun e w' he => ?_
  cases e with
  | returned v =>
    obtain ⟨res, h', Ok', β', hq, hret, hrel⟩ := he
    obtain ⟨h1, h2⟩ := back_sound hB r hls hokc hq hret hrel
    exact ⟨fun _ => h1, h2⟩
  | panicked _ => exact he
  | outgrown => exact he
theorem blocks_lt {st : St} {tm : List Value} (r : RelS w Ok β st tm) {ids : List Nat} : ∀ g, Ok g ∨ idBlk β ids g → g < w.heap.size := by
  rintro g (h | ⟨i, _, v, hv, hb⟩)
  · exact r.h.okLt g h
  · exact r.h.lt v g (List.mem_of_getElem? hv) hb
/-- ONE OPERATION. -/
theorem aop_done (hT : ttOk P T = true) (hE : EnvOk P E) (hB : ∀ g, B g → g < w0.heap.size) {o : Oper} {st : St} {a : Act} (r : Rel B Ok0 w0 w Ok β st a.tmps.toList) {K : V → St → Prop} (h : aop T E o st K) : Done P o a w (Cond (tame o) a B Ok0 w0 w K) := by
  cases hact : isAct o with
  | false =>
    obtain ⟨av, v, hq, hr, hp⟩ := aop_pure (E := E) hT hact r.s h
    unfold Done
    rw [hp w fun _ => .refl w]
    exact ⟨fun _ => .refl w, av, st, Ok, β, hq, hr, r⟩
  | true =>
    cases hop : o.op with
    | assign x => exact (aop_assign hT hB hop r h).done
    | alloc t => exact (aop_alloc hT hB hop r h).done
    | box t x => exact (aop_box hT hB hop r h).done
    | store t p x => exact (aop_store hT hB hop r h).done
    | makeSlice t x y => exact (aop_makeSlice hT hB hop r h).done
    | buildSlice t n ps => exact (aop_buildSlice hT hB hop r h).done
    | range t x => exact (aop_range hT hB hop r h).done
    | nilCheck x => exact (aop_nilCheck hop r h).done
    | slice t x lo hi mx =>
      rcases lo with _ | lo
      · simp [isAct, clsOf, hop] at hact
      · cases lo with
        | const c =>
          rcases hi with _ | hi
          · rcases mx with _ | mx
            · exact (aop_sliceOwn hT hB hop r h).done
            · simp [isAct, clsOf, hop] at hact
          · simp [isAct, clsOf, hop] at hact
        | _ => simp [isAct, clsOf, hop] at hact
    | next x b =>
      cases b with
      | true => exact (aop_next hB hop r h).done
      | false => simp only [aop, hop] at h
    | makeMap t x =>
      cases x with
      | none => exact (aop_makeMap hB hop r h).done
      | some _ => simp only [aop, hop] at h
    | insert t m k x => exact (mapPut_sound hT hB (.inl hop) r (by simpa only [aop, hop] using h)).done
    | mapUpdate t m k x => exact (mapPut_sound hT hB (.inr hop) r (by simpa only [aop, hop] using h)).done
    | lookup t x k b =>
      cases b with
      | false => exact (aop_lookup hT hop r h).done
      | true => simp only [aop, hop] at h
    | call c =>
      cases hcal : c.callee with
      | builtin b =>
        cases b with
        | append => exact (aop_append hT hB hop hcal r h).done
        | copy => exact (aop_copy hT hB hop hcal r h).done
        | len => simp [isAct, clsOf, hop, hcal] at hact
        | _ => simp only [aop, hop, hcal, callK] at h
      | invoke _ _ => simp only [aop, hop, hcal, callK] at h
      | value fo =>
        cases fo with
        | func f =>
          simp only [aop, hop, hcal, callK] at h
          obtain ⟨p, hp, h2⟩ := someK_iff h
          obtain ⟨xs, ls, cs, hq, hls, hargs⟩ := argsK_sound r.s h2
          have hrun : (execOp a.eval o).run P w = .ok (.enter f (c.args.toList.map a.eval).toArray) w := by
            have hent := (hE f p hp).2
            have e1 : (c.args.toList.map a.eval).toArray = c.args.map a.eval := by apply Array.ext'; simp
            rw [e1]
            have := run_callFunc hent (c.args.map a.eval) w
            simp [execOp, hop, resolve, hcal, Deferred.ofValue, Act.eval, invoke, this]
          cases hcl : c.args.toList.any (isClo · st) with
          | false =>
            rw [hcl] at hq
            exact call_done hE hB r hp hls hq (Okc := fun g => Ok g ∨ idBlk β (ownIds ls) g) (fun _ g h => h) (blocks_lt r.s) (hargs _ (fun _ => .inl) (fun _ => .inr) (by simp [hcl])) hrun
          | true =>
            rw [hcl] at hq
            exact call_done hE hB r hp hls hq (Okc := fun g => g < w.heap.size) (by simp) (fun _ h => h) (hargs _ (fun g hg => r.s.h.okLt g hg) (fun g hg => blocks_lt r.s g (.inr hg)) (fun _ v g hv hg => r.s.h.lt v g hv hg)) hrun
        | tmp t =>
          simp only [aop, hop, hcal, callK] at h
          obtain ⟨v, hv, h2⟩ := getK_iff h
          obtain ⟨b, hb, hr⟩ := r.s.s.get hv
          have he : a.eval (.tmp t) = b := by
            have hb' : a.tmps[t]? = some b := by simpa using hb
            show a.tmps.getD t undef = b
            simp [hb']
          split at h2
          · rename_i f cs0
            obtain ⟨p, hp, h3⟩ := someK_iff h2
            obtain ⟨xs, ls, cs, hq, hls, hargs⟩ := argsK_sound r.s h3
            obtain ⟨ds, hds, h4⟩ := someK_iff hq
            obtain ⟨ps, hps, h5⟩ := someK_iff h4
            obtain ⟨vs, hbv, hcs⟩ := hr
            have hcaps := caps_sound (Okc := fun g => g < w.heap.size) r.s.h (fun g hg => r.s.h.okLt g hg) (fun v g hv hg => r.s.h.lt v g hv hg) hds hcs
            have hps2 : All2 (RelV1 w (fun g => g < w.heap.size) []) (ps.map .one) vs.toList := by
              have hm := mapM_all2 hps
              refine All2.map _ ?_
              clear hps h5 hds h4
              revert hcaps
              generalize vs.toList = us
              intro hcaps
              induction ps generalizing ds us with
              | nil =>
                cases ds with
                | nil => rw [hcaps.nil_left]; trivial
                | cons _ _ => exact hm.elim
              | cons p ps ih =>
                cases ds with
                | nil => exact hm.elim
                | cons d ds =>
                  cases us with
                  | nil => exact hcaps.elim
                  | cons u us =>
                    refine ⟨?_, ih (ds := ds) (us := us) hm.2 hcaps.2⟩
                    have h1 := hm.1
                    cases d with
                    | id _ => cases h1
                    | imm k x => cases h1; exact hcaps.1
            have hrun : (execOp a.eval o).run P w = .ok (.enter f (c.args.toList.map a.eval ++ vs.toList).toArray) w := by
              have hent := (hE f p hp).2
              have e1 : (c.args.toList.map a.eval ++ vs.toList).toArray = c.args.map a.eval ++ vs := by apply Array.ext'; simp
              rw [e1]
              have := run_callFunc hent (c.args.map a.eval ++ vs) w
              simp only [execOp, hop, resolve, hcal, he, hbv, Deferred.ofValue]
              simp [invoke, this]
            exact call_done hE hB r hp hls h5 (Okc := fun g => g < w.heap.size) (by simp) (fun _ h => h)
              ((hargs _ (fun g hg => r.s.h.okLt g hg) (fun g hg => blocks_lt r.s g (.inr hg)) (fun _ v g hv hg => r.s.h.lt v g hv hg)).append hps2) hrun
          · exact h2.elim
        | _ => simp only [aop, hop, hcal, callK] at h
    | _ => first | (simp [isAct, clsOf, hop] at hact; done) | (simp [aop, hop] at h; done)
end
end Go.AM
namespace Go.AM
open Go.RowKit
section
variable {P : Program} {T : TT} {E : Env} {w w' w0 : World} {B Ok0 Ok : Nat → Prop} {β : List Value} {ds : List Deferred}
theorem putK_eq (st : St) (t : Tmp) (v : V) (Q : St → Prop) : putK st (some t) v Q = Q ⟨st.slots.set t v, st.heap⟩ := by
  cases st; simp [putK, setK_eq]
def putS (st : St) (d : Option Tmp) (v : V) : St :=
  match d with
  | none => st
  | some t => ⟨st.slots.set t v, st.heap⟩
theorem putK_put (st : St) (d : Option Tmp) (v : V) (Q : St → Prop) : putK st d v Q = Q (putS st d v) := by
  cases d with
  | none => rfl
  | some t => exact putK_eq st t v Q
theorem Rel.put {st : St} {a : Act} (r : Rel B Ok0 w0 w Ok β st a.tmps.toList) (d : Option Tmp) {av : V} {v : Value} (hv : RelV w Ok β av v) : Rel B Ok0 w0 w Ok β (putS st d av) (a.put d v).tmps.toList := by
  cases d with
  | none => exact r
  | some t =>
    refine ⟨⟨r.s.h, ?_⟩, r.fr, r.wr, r.new, r.old⟩
    simp only [putS, Act.put, Array.toList_setIfInBounds]
    exact r.s.s.set t hv
theorem All2.set_left {α γ : Type} {R : α → γ → Prop} : ∀ {l : List α} {m : List γ} (i : Nat) {a : α} {b : γ}, All2 R l m → m[i]? = some b → R a b → All2 R (l.set i a) m
  | [], [], _, _, _, _, _, _ => trivial
  | _ :: _, _ :: _, 0, _, _, h, hb, hr => by simp at hb; subst hb; exact ⟨hr, h.2⟩
  | _ :: _, _ :: _, i + 1, _, _, h, hb, hr => ⟨h.1, All2.set_left i h.2 (by simpa using hb) hr⟩
/-- A temporary that is known to hold what it holds. -/
theorem Rel.know {st : St} {tm : List Value} (r : Rel B Ok0 w0 w Ok β st tm) {t : Tmp} {av : V} {v : Value} (ht : tm[t]? = some v) (hv : RelV w Ok β av v) : Rel B Ok0 w0 w Ok β ⟨st.slots.set t av, st.heap⟩ tm :=
  ⟨⟨r.s.h, r.s.s.set_left t ht hv⟩, r.fr, r.wr, r.new, r.old⟩
/-- What holds behind a step: a state of which Q holds. -/
def Post (ds : List Deferred) (B Ok0 : Nat → Prop) (w0 : World) (Q : St → Prop) (a : Act) (w : World) : Prop :=
  a.defers = ds ∧ ∃ st Ok β, Q st ∧ Rel B Ok0 w0 w Ok β st a.tmps.toList
theorem put_defers (a : Act) (d : Option Tmp) (v : Value) : (a.put d v).defers = a.defers := by cases d <;> rfl

/-- How the world may turn under an operation. -/
structure Fine (T : TT) (o : Oper) (w w' : World) : Prop where
  grow : tame o = true → Grow w w'
  keep : ∀ bt, safeFor T bt o = true → KeepT bt w w'
theorem Fine.refl (T : TT) (o : Oper) (w : World) : Fine T o w w := ⟨fun _ => .refl w, fun bt _ => .refl bt w⟩
/-- One operation of a region: what is known of it in the state at hand. -/
structure Step1 (ds : List Deferred) (P : Program) (T : TT) (ops : Array Oper) (o : Oper) (B Ok0 : Nat → Prop) (w0 : World) (Q : St → Prop) (a : Act) (w : World) : Prop where
  yes : Region.wanted o (yielded ops a.tmps) = true → Done P o a w fun v w' => Fine T o w w' ∧ Post ds B Ok0 w0 Q (a.put o.dst v) w'
  no : Region.wanted o (yielded ops a.tmps) = false → Post ds B Ok0 w0 Q (a.put o.dst undef) w
  pure : isAct o = false → ∃ v, (Region.wanted o (yielded ops a.tmps) = true ∧ Pure1 P o a w v ∨ Region.wanted o (yielded ops a.tmps) = false ∧ v = undef) ∧ Post ds B Ok0 w0 Q (a.put o.dst v) w
theorem done_fine (hT : ttOk P T = true) {o : Oper} {st : St} {a : Act} (r : RelS w Ok β st a.tmps.toList) {K : V → St → Prop} (h : aop T E o st K) {R : V → St → Prop} (hd : Done P o a w (Cond (tame o) a B Ok0 w0 w R)) :
    Done P o a w fun v w' => Fine T o w w' ∧ Cond (tame o) a B Ok0 w0 w R v w' := by
  have tm : ∀ {w'}, (tame o = true → Grow w w') → (∀ bt, safeFor T bt o = true → tame o = true) → Fine T o w w' := fun h1 h2 => ⟨h1, fun bt hs => (h1 (h2 bt hs)).keep bt⟩
  by_cases ha : ∃ c, o.op = .call c ∧ c.callee = .builtin .append
  · obtain ⟨c, hop, hcal⟩ := ha
    have hx : ∃ v w1, (execOp a.eval o).run P w = .ok (.value v) w1 ∧ ∀ bt, safeFor T bt o = true → KeepT bt w w1 := by
      by_cases hek : ∃ t0 t1 e0 k0, c.argTypes.toList = [t0, t1] ∧ skind T t0 = some (e0, k0)
      · obtain ⟨t0, t1, e0, k0, hat, hek⟩ := hek
        obtain ⟨v, w1, h1, h2⟩ := append_keep hT hop hcal r h hat hek
        refine ⟨v, w1, h1, fun bt hs => h2 bt fun e => ?_⟩
        subst e
        unfold safeFor at hs
        simp [hop, hcal, tame, hat, hek] at hs
      · exfalso
        simp only [aop, hop, hcal] at h
        split at h
        · rename_i s x t t' hargs hargt
          obtain ⟨_, h2⟩ := ifK_iff h
          obtain ⟨ls, h3, hs⟩ := evL_sound r h2
          obtain ⟨lx, h4, hx⟩ := evL_sound r h3
          obtain ⟨⟨e, k⟩, hk, _⟩ := someK_iff h4
          exact hek ⟨t, t', e, k, hargt, hk⟩
        · exact h
    obtain ⟨v, w1, hr, hk⟩ := hx
    unfold Done at hd ⊢
    rw [hr] at hd ⊢
    exact ⟨⟨hd.1, hk⟩, hd⟩
  · have h2 : ∀ bt, safeFor T bt o = true → tame o = true := fun bt hs => by
      unfold safeFor at hs
      rcases Bool.or_eq_true_iff.1 hs with hs | hs
      · exact hs
      · split at hs
        · rename_i c hop
          split at hs
          · rename_i hcal
            exact absurd ⟨c, hop, hcal⟩ ha
          · cases hs
        · cases hs
    unfold Done at hd ⊢
    split at hd
    · exact ⟨tm hd.1 h2, hd⟩
    · exact ⟨tm hd.1 h2, hd⟩
    · refine Calls.mono hd fun e w'' he => ?_
      cases e with
      | returned v => exact ⟨tm he.1 h2, he⟩
      | panicked _ => exact he
      | outgrown => exact he
    · exact hd.elim
theorem aop_step (hT : ttOk P T = true) (hE : EnvOk P E) (hB : ∀ g, B g → g < w0.heap.size) {ops : Array Oper} {o : Oper} {st : St} {a : Act} (hd : a.defers = ds) (r : Rel B Ok0 w0 w Ok β st a.tmps.toList) {Q : St → Prop}
    (hw : Region.wanted o (yielded ops a.tmps) = true) (h : aop T E o st fun v st => putK st o.dst v Q) : Step1 ds P T ops o B Ok0 w0 Q a w := by
  refine ⟨fun _ => ?_, fun hn => (by rw [hw] at hn; cases hn), fun hact => ?_⟩
  · have hdone := done_fine hT r.s h (aop_done hT hE hB r h)
    have key : ∀ v w', Fine T o w w' ∧ Cond (tame o) a B Ok0 w0 w (fun v st => putK st o.dst v Q) v w' → Fine T o w w' ∧ Post ds B Ok0 w0 Q (a.put o.dst v) w' := by
      rintro v w' ⟨hfine, h1, av, st', Ok', β', hq, hv, hr⟩
      rw [putK_put] at hq
      exact ⟨hfine, by rw [put_defers]; exact hd, _, Ok', β', hq, hr.put o.dst hv⟩
    unfold Done at hdone ⊢
    split at hdone
    · exact key _ _ hdone
    · exact key _ _ hdone
    · refine Calls.mono hdone fun e w'' he => ?_
      cases e with
      | returned v => exact key _ _ he
      | panicked _ => exact he
      | outgrown => exact he
    · exact hdone.elim
  · obtain ⟨av, v, hq, hv, hp⟩ := aop_pure (E := E) hT hact r.s h
    rw [putK_put] at hq
    exact ⟨v, .inl ⟨hw, hp⟩, by rw [put_defers]; exact hd, _, Ok, β, hq, r.put o.dst hv⟩
theorem skip_step {ops : Array Oper} {o : Oper} {st : St} {a : Act} (hd : a.defers = ds) (r : Rel B Ok0 w0 w Ok β st a.tmps.toList) {Q : St → Prop}
    (hw : Region.wanted o (yielded ops a.tmps) = false) (h : putK st o.dst (.v (.one .skip)) Q) : Step1 ds P T ops o B Ok0 w0 Q a w := by
  rw [putK_put] at h
  have hp : Post ds B Ok0 w0 Q (a.put o.dst undef) w := ⟨by rw [put_defers]; exact hd, _, Ok, β, h, r.put o.dst (av := .v (.one .skip)) rfl⟩
  exact ⟨fun hy => (by rw [hw] at hy; cases hy), fun _ => hp, fun _ => ⟨undef, .inr ⟨hw, rfl⟩, hp⟩⟩
theorem runK_step (hT : ttOk P T = true) (hE : EnvOk P E) (hB : ∀ g, B g → g < w0.heap.size) {ops : Array Oper} {o : Oper} {st : St} {a : Act} (hd : a.defers = ds) (r : Rel B Ok0 w0 w Ok β st a.tmps.toList) {Q : St → Prop}
    (h : runK T E ops.toList o st Q) : Step1 ds P T ops o B Ok0 w0 Q a w := by
  unfold runK at h
  split at h
  · rename_i hg
    exact aop_step hT hE hB hd r (by simp [Region.wanted, hg]) h
  · rename_i g want hg
    obtain ⟨t, ht, h2⟩ := someK_iff h
    obtain ⟨v, hv, h3⟩ := getK_iff h2
    obtain ⟨b, hb, hr⟩ := r.s.s.get hv
    have hdst : (ops[g]?).bind (·.dst) = some t := by
      simp only [dstOf] at ht
      rw [Array.getElem?_toList] at ht
      exact ht
    have htm : a.tmps[t]? = some b := by simpa using hb
    have hwant : Region.wanted o (yielded ops a.tmps) = ((match b with | .bool x => some x | _ => none) == some want) := by
      simp only [Region.wanted, hg, yielded, hdst, Option.bind_some, htm]
      cases b <;> rfl
    clear h h2
    split at h3
    · rename_i d
      have hbv : b = .bool d := hr
      subst hbv
      cases d <;> cases want <;> simp only [brP, putK_eq] at h3
      · exact aop_step hT hE hB hd (r.know hb (av := .v (.one (.bool false))) rfl) (by rw [hwant]; rfl) h3
      · exact skip_step hd (r.know hb (av := .v (.one (.bool false))) rfl) (by rw [hwant]; rfl) (by rw [putK_put] at h3 ⊢; exact h3)
      · exact skip_step hd (r.know hb (av := .v (.one (.bool true))) rfl) (by rw [hwant]; rfl) (by rw [putK_put] at h3 ⊢; exact h3)
      · exact aop_step hT hE hB hd (r.know hb (av := .v (.one (.bool true))) rfl) (by rw [hwant]; rfl) h3
    · have hbv : b = undef := hr
      subst hbv
      exact skip_step hd r (by rw [hwant]; simp [undef]) h3
    · exact h3.elim
theorem Done.wp {o : Oper} {a : Act} {R : Value → World → Prop} {K : Act → World → Prop} {X : Exit → Act → World → Prop} (h : Done P o a w R) (hk : ∀ v w', R v w' → K (a.put o.dst v) w') : o.wp P a w K X := by
  unfold Done at h
  unfold Oper.wp
  generalize (execOp a.eval o).run P w = r at h
  cases r with
  | ok n w' =>
    cases n with
    | value v => exact hk v w' h
    | skip => exact hk undef w' h
    | enter f args =>
      refine Calls.mono h fun e w'' he => ?_
      cases e with
      | returned v => exact hk v w'' he
      | panicked _ => exact he.elim
      | outgrown => exact he.elim
    | _ => exact h.elim
  | halt _ _ => exact h.elim
/-- Exits. -/
def PostX (ds : List Deferred) (B Ok0 : Nat → Prop) (w0 : World) (Q : Ex → St → Prop) : Exit → Act → World → Prop
  | .normal => Post ds B Ok0 w0 (Q .normal)
  | .exit i => Post ds B Ok0 w0 (Q (.exit i))
  | .ret => Post ds B Ok0 w0 (Q .ret)
  | _ => fun _ _ => False
theorem opsK_sound (hT : ttOk P T = true) (hE : EnvOk P E) (hB : ∀ g, B g → g < w0.heap.size) {ops : Array Oper} {Q : Ex → St → Prop} : ∀ (l : List Oper) {st : St} {a : Act} {w : World} {Ok : Nat → Prop} {β : List Value}, a.defers = ds →
    Rel B Ok0 w0 w Ok β st a.tmps.toList → opsK T E ops.toList l st (Q .normal) → wpList P ops (PostX ds B Ok0 w0 Q) l a w
  | [], st, a, w, Ok, β, hd, r, h => ⟨hd, st, Ok, β, h, r⟩
  | o :: l, st, a, w, Ok, β, hd, r, h => by
    have hs := runK_step (ops := ops) hT hE hB hd r h
    refine wpList_step fun K hK => ?_
    have next : ∀ a' w', Post ds B Ok0 w0 (fun st => opsK T E ops.toList l st (Q .normal)) a' w' → K a' w' := by
      rintro a' w' ⟨hd', st', Ok', β', hq, r'⟩
      exact hK _ _ (opsK_sound hT hE hB l hd' r' hq)
    split
    · rename_i hw
      exact (hs.yes hw).wp fun v w' h => next _ _ h.2
    · rename_i hw
      exact next _ _ (hs.no (by simpa using hw))

/-! ### regions that draw -/
def wpAnyT (P : Program) (T : TT) (ops : Array Oper) (Q : Exit → Act → World → Prop) : Nat → Array Bool → Act → World → Prop
  | 0, listed, a, w => Region.ready .any ops listed = [] ∧ Q .normal a w
  | fuel + 1, listed, a, w =>
    (Region.ready .any ops listed = [] → Q .normal a w) ∧
    ∀ i ∈ Region.ready .any ops listed, wpOp P ops Q i (fun a' w' => (∀ o, ops[i]? = some o → Fine T o w w') ∧ wpAnyT P T ops Q fuel (listed.setIfInBounds i true) a' w') a w
theorem wpAny_of_T {ops : Array Oper} {Q : Exit → Act → World → Prop} : ∀ (fuel : Nat) (listed : Array Bool) (a : Act) (w : World), wpAnyT P T ops Q fuel listed a w → wpAny P .any ops Q fuel listed a w
  | 0, _, _, _, h => h
  | fuel + 1, _, _, _, h => ⟨h.1, fun i hi => wpOp_mono (fun a' w' h' => wpAny_of_T fuel _ a' w' h'.2) (h.2 i hi)⟩
theorem YieldsIf.weaken {ops : Array Oper} {S S' : World → Prop} {o : Oper} {v : Value} {a : Act} (h : YieldsIf P ops S o v a) (hs : ∀ w, S' w → S w) : YieldsIf P ops S' o v a :=
  h.imp (fun ⟨h1, h2⟩ => ⟨h1, fun w hw => h2 w (hs w hw)⟩) id
/-- An operation that only reads goes first. G: how the world may turn before it is due. -/
theorem wpAnyT_first {ops : Array Oper} {Q : Exit → Act → World → Prop} (G : World → World → Prop) (hrefl : ∀ w, G w w) (htrans : ∀ a b c, G a b → G b c → G a c) {i : Nat} {oi : Oper} {v : Value} (hi : ops[i]? = some oi)
    (hsel : ∀ (j : Nat) (o : Oper) cs b, ops[j]? = some o → o.op ≠ .select cs b) (hQ : ∀ c a w, Q (.panic c) (a.put oi.dst v) w → Q (.panic c) a w) :
    ∀ (fuel : Nat) (listed : Array Bool) (a : Act) (w : World),
      (∀ j oj, ops[j]? = some oj → j ≠ i → listed.getD j true = false → (∀ e ∈ oj.after, Region.binds .any e = true → e.on ≠ i) → oi.apart ops oj = true ∧ ∀ w w', Fine T oj w w' → G w w') →
      i ∈ Region.ready .any ops listed → YieldsIf P ops (G w) oi v a →
      wpAnyT P T ops Q fuel (listed.setIfInBounds i true) (a.put oi.dst v) w → wpAnyT P T ops Q (fuel + 1) listed a w := by
  intro fuel
  induction fuel with
  | zero =>
    intro listed a w _ hr hy H
    refine ⟨fun h => (by rw [h] at hr; cases hr), fun j hj => ?_⟩
    by_cases hji : j = i
    · subst hji; exact hy.wpOp hi (hrefl w) ⟨fun o _ => .refl T o w, H⟩
    · have := ready_mono hj hji
      rw [H.1] at this
      cases this
  | succ fuel ih =>
    intro listed a w hfree hr hy H
    refine ⟨fun h => (by rw [h] at hr; cases hr), fun j hj => ?_⟩
    by_cases hji : j = i
    · subst hji; exact hy.wpOp hi (hrefl w) ⟨fun o _ => .refl T o w, H⟩
    · have h1 := H.2 j (ready_mono hj hji)
      obtain ⟨hjun, oj, hoj, hall⟩ := mem_ready.1 hj
      have hnot : ∀ e ∈ oj.after, Region.binds .any e = true → e.on ≠ i := fun e he hb heq => by
        have h1 := hall e he hb
        have h0 := (mem_ready.1 hr).1
        rw [heq] at h1
        rcases Nat.lt_or_ge i listed.size with h' | h'
        · simp [h'] at h0 h1; rw [h0] at h1; cases h1
        · simp [Array.getElem?_eq_none h'] at h1
      have hfj := hfree j oj hoj hji hjun hnot
      have h2 := wpOp_putIf hoj hfj.1 (fun cs b => hsel i oi cs b hi) (fun cs b => hsel j oj cs b hoj) hQ hy h1
      have hfree' : ∀ k ok, ops[k]? = some ok → k ≠ i → (listed.setIfInBounds j true).getD k true = false →
          (∀ e ∈ ok.after, Region.binds .any e = true → e.on ≠ i) → oi.apart ops ok = true ∧ ∀ w w', Fine T ok w w' → G w w' := fun k ok hk hki hun hno => by
        refine hfree k ok hk hki ?_ hno
        by_cases hjk : j = k
        · subst hjk; exact hjun
        · rw [getD_set_ne true hjk] at hun; exact hun
      refine wpOp_mono (fun a' w' h3 => ?_) h2
      obtain ⟨hy3, htm, hrest⟩ := h3
      have hG : G w w' := hfj.2 w w' (htm oj hoj)
      refine ⟨htm, ih (listed.setIfInBounds j true) a' w' hfree' (ready_mono hr (Ne.symm hji)) (YieldsIf.weaken hy3 fun w'' h => htrans _ _ _ hG h) ?_⟩
      rw [Array.setIfInBounds_comm _ _ hji]
      exact hrest
theorem allK_mem {F : Nat → Prop} : ∀ {l : List Nat}, allK l F → ∀ i ∈ l, F i
  | [], _, i, hi => by simp at hi
  | [x], h, i, hi => by simp at hi; subst hi; exact h
  | x :: y :: r, h, i, hi => by
    rcases List.mem_cons.1 hi with rfl | hi
    · exact h.1
    · exact allK_mem h.2 i hi
theorem runK_box (hT : ttOk P T = true) {ops : Array Oper} {o : Oper} {st : St} {a : Act} (r : RelS w Ok β st a.tmps.toList) {Q : St → Prop} (hw : Region.wanted o (yielded ops a.tmps) = true)
    (h : runK T E ops.toList o st Q) {t : TypeId} {p : Operand} (hop : o.op = .load t p) {bt : TypeId} (hb : boxTag st p = some bt) {v : Value} (hv : (execOp a.eval o).run P w = .ok (.value v) w) {w' : World} (hk : KeepT bt w w') :
    (execOp a.eval o).run P w' = .ok (.value v) w' := by
  unfold runK at h
  split at h
  · exact load_box hT hop r h hb hv hk
  · rename_i g want hg
    obtain ⟨t1, ht, h2⟩ := someK_iff h
    obtain ⟨v1, hv1, h3⟩ := getK_iff h2
    obtain ⟨b, hb1, hr⟩ := r.s.get hv1
    have hdst : (ops[g]?).bind (·.dst) = some t1 := by
      simp only [dstOf] at ht
      rw [Array.getElem?_toList] at ht
      exact ht
    have htm : a.tmps[t1]? = some b := by simpa using hb1
    have hwant : Region.wanted o (yielded ops a.tmps) = ((match b with | .bool x => some x | _ => none) == some want) := by
      simp only [Region.wanted, hg, yielded, hdst, Option.bind_some, htm]
      cases b <;> rfl
    rw [hwant] at hw
    clear h h2
    split at h3
    · rename_i d
      have hbv : b = .bool d := hr
      subst hbv
      have hb2 : ∀ d', boxTag ⟨st.slots.set t1 (.v (.one (.bool d'))), st.heap⟩ p = some bt := fun d' => by
        cases p with
        | tmp t' =>
          have hne : t1 ≠ t' := by
            rintro rfl
            unfold boxTag at hb
            simp [hv1] at hb
          unfold boxTag at hb ⊢
          simp only at hb ⊢
          rw [List.getElem?_set_ne hne]
          exact hb
        | _ => simp [boxTag] at hb
      cases d <;> cases want <;> simp only [brP, putK_eq] at h3
      · exact load_box hT hop (st := ⟨st.slots.set t1 (.v (.one (.bool false))), st.heap⟩) ⟨r.h, r.s.set_left t1 hb1 rfl⟩ h3 (hb2 _) hv hk
      · simp at hw
      · simp at hw
      · exact load_box hT hop (st := ⟨st.slots.set t1 (.v (.one (.bool true))), st.heap⟩) ⟨r.h, r.s.set_left t1 hb1 rfl⟩ h3 (hb2 _) hv hk
    · have hbv : b = undef := hr
      subst hbv
      simp [undef] at hw
    · exact h3.elim
theorem ordK_sound (hT : ttOk P T = true) (hE : EnvOk P E) (hB : ∀ g, B g → g < w0.heap.size) {ops : Array Oper} (hsel : Region.noSelect ops = true) {Q : Ex → St → Prop} : ∀ (n : Nat) (listed : Array Bool) {st : St} {a : Act} {w : World} {Ok : Nat → Prop} {β : List Value},
    a.defers = ds → Rel B Ok0 w0 w Ok β st a.tmps.toList → ordK T E ops (Q .normal) n listed st → wpAnyT P T ops (PostX ds B Ok0 w0 Q) n listed a w
  | 0, listed, st, a, w, Ok, β, hd, r, h => by
    unfold ordK at h
    split at h
    · rename_i hr
      exact ⟨hr, hd, st, Ok, β, h, r⟩
    · exact h.elim
  | n + 1, listed, st, a, w, Ok, β, hd, r, h => by
    unfold ordK at h
    split at h
    · rename_i hr
      have hp : PostX ds B Ok0 w0 Q .normal a w := ⟨hd, st, Ok, β, h, r⟩
      exact ⟨fun _ => hp, by rw [hr]; simp⟩
    · rename_i i0 rs hr
      · have next : ∀ (i : Nat) a' w', Post ds B Ok0 w0 (fun st => ordK T E ops (Q .normal) n (listed.setIfInBounds i true) st) a' w' → wpAnyT P T ops (PostX ds B Ok0 w0 Q) n (listed.setIfInBounds i true) a' w' := by
          rintro i a' w' ⟨hd', st', Ok', β', hq, r'⟩
          exact ordK_sound hT hE hB hsel n _ hd' r' hq
        split at h
        · rename_i i hfind
          obtain ⟨o, ho, h2⟩ := someK_iff h
          have hs := runK_step (ops := ops) hT hE hB hd r h2
          have hmem : i ∈ Region.ready .any ops listed := by rw [hr]; exact List.mem_of_find?_eq_some hfind
          have hfst := List.find?_some hfind
          simp only [firstOf, ho, Bool.and_eq_true, Bool.not_eq_true'] at hfst
          obtain ⟨⟨hact, hfree⟩, hld⟩ := hfst
          obtain ⟨v, hv, hpost⟩ := hs.pure hact
          have hnx := next i _ _ hpost
          cases hl : isLoad o with
          | false =>
            refine wpAnyT_first (fun _ _ => True) (fun _ => trivial) (fun _ _ _ _ _ => trivial) ho (Region.noSelect_spec hsel) (fun _ _ _ h => h) n listed a w
              (fun j oj hj hne hun hno => ⟨Region.free_spec ho hfree j oj hj hne hun hno, fun _ _ _ => trivial⟩) hmem ?_ hnx
            rcases hv with ⟨hw, hp⟩ | ⟨hw, hv⟩
            · exact .inl ⟨hw, fun w'' _ => hp w'' (by rw [hl]; intro h; cases h)⟩
            · exact .inr ⟨hw, hv⟩
          | true =>
            refine wpAnyT_first Grow Grow.refl (fun _ _ _ => Grow.trans) ho (Region.noSelect_spec hsel) (fun _ _ _ h => h) n listed a w
              (fun j oj hj hne hun hno => ⟨Region.free_spec ho hfree j oj hj hne hun hno, ?_⟩) hmem ?_ hnx
            · have h3 := hld
              simp only [hl, Bool.not_true, Bool.false_or, List.all_eq_true, List.mem_range] at h3
              have h4 := h3 j (Array.getElem?_eq_some_iff.1 hj).1
              simp only [hj, hun, Bool.or_eq_true, beq_iff_eq, hne, false_or, Bool.false_eq_true] at h4
              rcases h4 with h4 | h4
              · exact fun w w' h => h.grow h4
              · exfalso
                rw [Array.any_eq_true] at h4
                obtain ⟨k, hk, h5⟩ := h4
                simp only [Bool.and_eq_true, beq_iff_eq] at h5
                exact hno _ (Array.getElem_mem hk) h5.1 h5.2
            · rcases hv with ⟨hw, hp⟩ | ⟨hw, hv⟩
              · exact .inl ⟨hw, fun w'' hg => hp w'' fun _ => hg⟩
              · exact .inr ⟨hw, hv⟩
        · have hall := allK_mem h
          refine ⟨fun h0 => (by rw [hr] at h0; cases h0), fun i hi => ?_⟩
          rw [hr] at hi
          obtain ⟨o, ho, h2⟩ := someK_iff (hall i hi)
          have hs := runK_step (ops := ops) hT hE hB hd r h2
          unfold wpOp
          simp only [ho]
          split
          · rename_i hw
            exact .inl ((hs.yes hw).wp fun v w' h => ⟨fun o' ho' => by cases ho'; exact h.1, next i _ _ h.2⟩)
          · rename_i hw
            exact ⟨fun o' _ => .refl T o' w, next i _ _ (hs.no (by simpa using hw))⟩
theorem ordB_sound (hT : ttOk P T = true) (hE : EnvOk P E) (hB : ∀ g, B g → g < w0.heap.size) {ops : Array Oper} (hsel : Region.noSelect ops = true) {Q : Ex → St → Prop} : ∀ (n : Nat) (listed : Array Bool) {st : St} {a : Act} {w : World} {Ok : Nat → Prop} {β : List Value},
    a.defers = ds → Rel B Ok0 w0 w Ok β st a.tmps.toList → ordB T E ops (Q .normal) n listed st → wpAnyT P T ops (PostX ds B Ok0 w0 Q) n listed a w
  | 0, listed, st, a, w, Ok, β, hd, r, h => by
    unfold ordB at h
    split at h
    · rename_i hr
      exact ⟨hr, hd, st, Ok, β, h, r⟩
    · exact h.elim
  | n + 1, listed, st, a, w, Ok, β, hd, r, h => by
    unfold ordB at h
    split at h
    · rename_i hr
      have hp : PostX ds B Ok0 w0 Q .normal a w := ⟨hd, st, Ok, β, h, r⟩
      exact ⟨fun _ => hp, by rw [hr]; simp⟩
    · rename_i i0 rs hr
      · have next : ∀ (i : Nat) a' w', Post ds B Ok0 w0 (fun st => ordB T E ops (Q .normal) n (listed.setIfInBounds i true) st) a' w' → wpAnyT P T ops (PostX ds B Ok0 w0 Q) n (listed.setIfInBounds i true) a' w' := by
          rintro i a' w' ⟨hd', st', Ok', β', hq, r'⟩
          exact ordB_sound hT hE hB hsel n _ hd' r' hq
        split at h
        · rename_i i hfind
          obtain ⟨o, ho, h2⟩ := someK_iff h
          have hs := runK_step (ops := ops) hT hE hB hd r h2
          have hmem : i ∈ Region.ready .any ops listed := by rw [hr]; exact List.mem_of_find?_eq_some hfind
          have hfst := List.find?_some hfind
          simp only [firstOf, ho, Bool.and_eq_true, Bool.not_eq_true'] at hfst
          obtain ⟨⟨hact, hfree⟩, hld⟩ := hfst
          obtain ⟨v, hv, hpost⟩ := hs.pure hact
          have hnx := next i _ _ hpost
          cases hl : isLoad o with
          | false =>
            refine wpAnyT_first (fun _ _ => True) (fun _ => trivial) (fun _ _ _ _ _ => trivial) ho (Region.noSelect_spec hsel) (fun _ _ _ h => h) n listed a w
              (fun j oj hj hne hun hno => ⟨Region.free_spec ho hfree j oj hj hne hun hno, fun _ _ _ => trivial⟩) hmem ?_ hnx
            rcases hv with ⟨hw, hp⟩ | ⟨hw, hv⟩
            · exact .inl ⟨hw, fun w'' _ => hp w'' (by rw [hl]; intro h; cases h)⟩
            · exact .inr ⟨hw, hv⟩
          | true =>
            refine wpAnyT_first Grow Grow.refl (fun _ _ _ => Grow.trans) ho (Region.noSelect_spec hsel) (fun _ _ _ h => h) n listed a w
              (fun j oj hj hne hun hno => ⟨Region.free_spec ho hfree j oj hj hne hun hno, ?_⟩) hmem ?_ hnx
            · have h3 := hld
              simp only [hl, Bool.not_true, Bool.false_or, List.all_eq_true, List.mem_range] at h3
              have h4 := h3 j (Array.getElem?_eq_some_iff.1 hj).1
              simp only [hj, hun, Bool.or_eq_true, beq_iff_eq, hne, false_or, Bool.false_eq_true] at h4
              rcases h4 with h4 | h4
              · exact fun w w' h => h.grow h4
              · exfalso
                rw [Array.any_eq_true] at h4
                obtain ⟨k, hk, h5⟩ := h4
                simp only [Bool.and_eq_true, beq_iff_eq] at h5
                exact hno _ (Array.getElem_mem hk) h5.1 h5.2
            · rcases hv with ⟨hw, hp⟩ | ⟨hw, hv⟩
              · exact .inl ⟨hw, fun w'' hg => hp w'' fun _ => hg⟩
              · exact .inr ⟨hw, hv⟩
        · split at h
          · rename_i i hfind
            obtain ⟨o, ho, h2⟩ := someK_iff h
            have hs := runK_step (ops := ops) hT hE hB hd r h2
            have hmem : i ∈ Region.ready .any ops listed := by rw [hr]; exact List.mem_of_find?_eq_some hfind
            have hfst := List.find?_some hfind
            unfold firstBox at hfst
            simp only [ho] at hfst
            split at hfst
            · rename_i t p hop
              split at hfst
              · rename_i bt hbt
                simp only [Bool.and_eq_true] at hfst
                obtain ⟨hfree, hld⟩ := hfst
                have hact : isAct o = false := by simp [isAct, clsOf, hop]
                obtain ⟨v, hv, hpost⟩ := hs.pure hact
                have hnx := next i _ _ hpost
                refine wpAnyT_first (KeepT bt) (KeepT.refl bt) (fun _ _ _ => KeepT.trans) ho (Region.noSelect_spec hsel) (fun _ _ _ h => h) n listed a w
                  (fun j oj hj hne hun hno => ⟨Region.free_spec ho hfree j oj hj hne hun hno, ?_⟩) hmem ?_ hnx
                · simp only [List.all_eq_true, List.mem_range] at hld
                  have h4 := hld j (Array.getElem?_eq_some_iff.1 hj).1
                  simp only [hj, hun, Bool.or_eq_true, beq_iff_eq, hne, false_or, Bool.false_eq_true] at h4
                  rcases h4 with h4 | h4
                  · exact fun w w' h => h.keep bt h4
                  · exfalso
                    rw [Array.any_eq_true] at h4
                    obtain ⟨k, hk, h5⟩ := h4
                    simp only [Bool.and_eq_true, beq_iff_eq] at h5
                    exact hno _ (Array.getElem_mem hk) h5.1 h5.2
                · rcases hv with ⟨hw, hp⟩ | ⟨hw, hv⟩
                  · exact .inl ⟨hw, fun w'' hg => runK_box hT r.s hw h2 hop hbt (hp w fun _ => .refl w) hg⟩
                  · exact .inr ⟨hw, hv⟩
              · cases hfst
            · cases hfst
          · have hall := allK_mem h
            refine ⟨fun h0 => (by rw [hr] at h0; cases h0), fun i hi => ?_⟩
            rw [hr] at hi
            obtain ⟨o, ho, h2⟩ := someK_iff (hall i hi)
            have hs := runK_step (ops := ops) hT hE hB hd r h2
            unfold wpOp
            simp only [ho]
            split
            · rename_i hw
              exact .inl ((hs.yes hw).wp fun v w' h => ⟨fun o' ho' => by cases ho'; exact h.1, next i _ _ h.2⟩)
            · rename_i hw
              exact ⟨fun o' _ => .refl T o' w, next i _ _ (hs.no (by simpa using hw))⟩
end
end Go.AM
namespace Go.AM
open Go.RowKit
universe u
section
variable {P : Program} {T : TT} {E : Env} {w w' w0 : World} {B Ok0 Ok : Nat → Prop} {β : List Value}
theorem brM {c : Bool} {X Y X' Y' : Prop} (h1 : X → X') (h2 : Y → Y') : brP c X Y → brP c X' Y' := by
  cases c
  · exact h2
  · exact h1
theorem andM {X Y X' Y' : Prop} (h1 : X → X') (h2 : Y → Y') : X ∧ Y → X' ∧ Y' := And.imp h1 h2
theorem allM {α : Sort u} {X X' : α → Prop} (h : ∀ x, X x → X' x) : (∀ x, X x) → ∀ x, X' x := fun hx x => h x (hx x)
theorem ap {X Y : Prop} (x : X) (h : X → Y) : Y := h x
/-- A statement that nobody looks behind. -/
structure Of (p : Prop) : Prop where
  out : p
theorem kcO {A B : Prop} (e : A = B) (h : A) : Of B := ⟨e ▸ h⟩
/-! ### named anew -/
theorem nodupB_inj : ∀ {L : List Nat}, nodupB L = true → ∀ {i j : Nat} {x : Nat}, L[i]? = some x → L[j]? = some x → i = j
  | [], _, i, _, _, h, _ => by simp at h
  | y :: r, hn, i, j, x, hi, hj => by
    simp only [nodupB, Bool.and_eq_true, Bool.not_eq_true', List.contains_eq_mem, decide_eq_false_iff_not] at hn
    cases i with
    | zero =>
      cases j with
      | zero => rfl
      | succ j =>
        simp at hi hj
        subst hi
        exact absurd (List.mem_of_getElem? hj) hn.1
    | succ i =>
      cases j with
      | zero =>
        simp at hi hj
        subst hj
        exact absurd (List.mem_of_getElem? hi) hn.1
      | succ j =>
        have := nodupB_inj hn.2 (i := i) (j := j) (x := x) (by simpa using hi) (by simpa using hj)
        omega
theorem place_get : ∀ {L : List Nat} {i j : Nat}, place L i = some j → L[j]? = some i
  | [], _, _, h => by simp [place] at h
  | x :: r, i, j, h => by
    simp only [place] at h
    split at h
    · rename_i e; cases h; simp [e]
    · cases hp : place r i with
      | none => rw [hp] at h; cases h
      | some k => rw [hp] at h; cases h; simpa using place_get hp
theorem renHeap_spec {L : List Nat} {h : List Ob} : ∀ {r : List Nat} {s : List Ob}, renHeap L h r = some s → All2 (fun o i => ∃ o', h[i]? = some o' ∧ o = mapOb (renL L) o') s r
  | [], s, e => by simp [renHeap] at e; subst e; trivial
  | i :: r, s, e => by
    simp only [renHeap] at e
    split at e
    · rename_i o ho
      split at e
      · rename_i s' hs
        cases e
        exact ⟨⟨o, ho, rfl⟩, renHeap_spec hs⟩
      · cases e
    · cases e
def renB (β : List Value) (L : List Nat) : List Value := L.map fun i => (β[i]?).getD undef
theorem renB_get {L : List Nat} {i j : Nat} {v : Value} (hj : L[j]? = some i) (hv : β[i]? = some v) : (renB β L)[j]? = some v := by
  simp [renB, hj, hv]
theorem ren_rel {L : List Nat} {l : Lf} {v : Value} (h : RelL w Ok β l v) : RelL w Ok (renB β L) (renL L l) v := by
  cases l with
  | own i =>
    simp only [renL]
    split
    · rename_i j hj; exact ⟨renB_get (place_get hj) h.1, h.2⟩
    · exact h.def1 (by simp)
  | ptr i o =>
    simp only [renL]
    split
    · rename_i j hj; obtain ⟨g, h1, h2⟩ := h; exact ⟨g, renB_get (place_get hj) h1, h2⟩
    · exact h.def1 (by simp)
  | mp i =>
    simp only [renL]
    split
    · rename_i j hj; exact ⟨renB_get (place_get hj) h.1, h.2⟩
    · exact h.def1 (by simp)
  | ept i a z o =>
    simp only [renL]
    split
    · rename_i j hj; obtain ⟨g, o, n, c, h1, h2⟩ := h; exact ⟨g, o, n, c, renB_get (place_get hj) h1, h2⟩
    · exact h.def1 (by simp)
  | clo f cs =>
    simp only [renL]
    split
    · rename_i ds hds
      obtain ⟨vs, h1, h2⟩ := h
      refine ⟨vs, h1, ?_⟩
      have hm := mapM_all2 hds
      revert h2 hm
      clear hds h1
      generalize vs.toList = us
      intro h2 hm
      induction ds generalizing cs us with
      | nil => cases cs with
        | nil => rw [h2.nil_left]; trivial
        | cons _ _ => exact hm.elim
      | cons d ds ih => cases cs with
        | nil => exact hm.elim
        | cons c cs => cases us with
          | nil => exact h2.elim
          | cons u us =>
            refine ⟨?_, ih cs (us := us) h2.2 hm.2⟩
            have h3 := hm.1
            cases c with
            | id n =>
              simp only [capR] at h3
              cases hp : place L n with
              | none => rw [hp] at h3; cases h3
              | some j =>
                rw [hp] at h3; cases h3
                obtain ⟨g, h4, h5⟩ := h2.1
                exact ⟨g, renB_get (place_get hp) h4, h5⟩
            | imm k x => cases h3; exact h2.1
    · exact h.def1 (by simp)
  | _ => exact h
theorem renH {heap heap' : List Ob} (h : RelH w Ok β heap) {L : List Nat} (hn : nodupB L = true) (hr : renHeap L heap L = some heap') : RelH w Ok (renB β L) heap' ∧ ∀ v, v ∈ renB β L → v ∈ β := by
  have hs := renHeap_spec hr
  have hmem : ∀ (j : Nat) v, (renB β L)[j]? = some v → ∃ i, L[j]? = some i ∧ β[i]? = some v := by
    intro j v hv
    simp only [renB, List.getElem?_map] at hv
    cases hj : L[j]? with
    | none => rw [hj] at hv; cases hv
    | some i =>
      rw [hj] at hv
      obtain ⟨o, ho⟩ : ∃ o, heap'[j]? = some o := by
        have : j < heap'.length := by rw [hs.length]; exact (List.getElem?_eq_some_iff.1 hj).1
        exact ⟨_, List.getElem?_eq_getElem this⟩
      obtain ⟨i', hi', o', ho', _⟩ := hs.get ho
      rw [hj] at hi'
      cases hi'
      obtain ⟨u, hu, _⟩ := h.obj ho'
      simp only [Option.map_some, hu, Option.getD_some, Option.some.injEq] at hv
      subst hv
      exact ⟨i, rfl, hu⟩
  have hall : ∀ v, v ∈ renB β L → v ∈ β := fun v hv => by
    obtain ⟨j, hj⟩ := List.getElem?_of_mem hv
    obtain ⟨i, _, hi⟩ := hmem j v hj
    exact List.mem_of_getElem? hi
  refine ⟨⟨?_, ?_, ?_, h.okLt, ?_⟩, hall⟩
  · refine All2.of_get (by rw [hs.length]; simp [renB]) fun j o v ho hv => ?_
    obtain ⟨i, hj, hi⟩ := hmem j v hv
    obtain ⟨i', hi', o', ho', e⟩ := hs.get ho
    rw [hj] at hi'
    cases hi'
    obtain ⟨u, hu, hou⟩ := h.obj ho'
    rw [hi] at hu
    cases hu
    rw [e]
    exact RelO.mapL _ rfl (fun _ _ => ren_rel) (Stay.refl w Ok) (fun _ _ => rfl) hou
  · intro j1 j2 v u g h1 h2 hv hu
    obtain ⟨i1, hj1, hi1⟩ := hmem j1 v h1
    obtain ⟨i2, hj2, hi2⟩ := hmem j2 u h2
    have := h.dist i1 i2 v u g hi1 hi2 hv hu
    subst this
    exact nodupB_inj hn hj1 hj2
  · exact fun v g hv hg => h.lt v g (hall v hv) hg
  · exact fun v g hv hg => h.okNot v g (hall v hv) hg
theorem keep_rel : ∀ {keep : List Nat} {n : Nat} {l : List V} {tm : List Value}, All2 (RelV w Ok β) l tm → All2 (RelV w Ok β) (keepFrom keep n l) tm
  | _, _, [], [], _ => trivial
  | keep, n, x :: r, v :: tm, h => by
    refine ⟨?_, keep_rel h.2⟩
    split
    · exact h.1
    · trivial
theorem normK_sound {st : St} {tm : List Value} (r : Rel B Ok0 w0 w Ok β st tm) {keep : List Nat} {Q : St → Prop} (h : normK keep st Q) : ∃ st' β', Q st' ∧ Rel B Ok0 w0 w Ok β' st' tm := by
  unfold normK at h
  simp only at h
  obtain ⟨hn, h2⟩ := ifK_iff h
  obtain ⟨heap', hr, h3⟩ := someK_iff h2
  rw [stK_eq] at h3
  obtain ⟨hH, hm⟩ := renH r.s.h hn hr
  exact ⟨_, _, h3, ⟨hH, All2.map _ ((keep_rel r.s.s).mono fun _ _ => RelV.mapL _ rfl fun _ _ => ren_rel)⟩, r.fr, fun v g hv => r.wr v g (hm v hv), r.new, r.old⟩

/-! ### code -/
theorem Rel.drew {st : St} {tm : List Value} (r : Rel B Ok0 w0 w Ok β st tm) : Rel B Ok0 w0 { w with drawn := w.drawn + 1 } Ok β st tm := by
  have hs : Stay w { w with drawn := w.drawn + 1 } Ok Ok := ⟨fun _ h => h, fun _ _ _ h => h⟩
  have hb : ∀ (i : Nat) v, β[i]? = some v → β[i]? = some v := fun _ _ h => h
  exact ⟨⟨⟨r.s.h.objs.mono fun _ _ => RelO.mono hs hb (fun _ _ => rfl), r.s.h.dist, r.s.h.lt, r.s.h.okLt, r.s.h.okNot⟩, r.s.s.mono fun _ _ => RelV.mono hs hb⟩,
    ⟨r.fr.os, r.fr.tape, r.fr.output, r.fr.size, r.fr.block⟩, r.wr, r.new, r.old⟩
theorem awp_sound {ds : List Deferred} (hT : ttOk P T = true) (hE : EnvOk P E) (hm : P.follows .mixedOrders = true) (hB : ∀ g, B g → g < w0.heap.size) {A : Ann} : ∀ (code : Code) (c : Nat) {st : St} {a : Act} {w : World} {Ok : Nat → Prop} {β : List Value} {Q : Ex → St → Prop},
    a.defers = ds → Rel B Ok0 w0 w Ok β st a.tmps.toList → awp T E A code c st Q → code.wp P (PostX ds B Ok0 w0 Q) a w := by
  intro code
  induction code with
  | skip => intro c st a w Ok β Q hd r h; exact wp_skip ⟨hd, st, Ok, β, h, r⟩
  | region id ops draw =>
    intro c st a w Ok β Q hd r h
    cases draw with
    | false => exact wp_region_list (opsK_sound hT hE hB _ hd r h)
    | true =>
      obtain ⟨hsel, h2⟩ := ifK_iff h
      split at h2
      · exact wp_region_any hm (wpAny_of_T _ _ _ _ (ordK_sound hT hE hB hsel ops.size _ hd r.drew h2))
      · exact wp_region_any hm (wpAny_of_T _ _ _ _ (ordB_sound hT hE hB hsel ops.size _ hd r.drew h2))
  | seq x y ihx ihy =>
    intro c st a w Ok β Q hd r h
    refine wp_seq (wp_mono (ihx c hd r h) fun e a' w' hq => ?_)
    cases e with
    | normal =>
      obtain ⟨hd', st', Ok', β', hq, r'⟩ := hq
      exact ihy c hd' r' hq
    | exit id => exact hq
    | ret => exact hq
    | _ => exact hq.elim
  | cond t x y ihx ihy =>
    intro c st a w Ok β Q hd r h
    cases t with
    | tmp t =>
      obtain ⟨v, hv, h2⟩ := getK_iff h
      obtain ⟨b, hb, hr⟩ := r.s.s.get hv
      have he : a.eval (.tmp t) = b := by
        have hb' : a.tmps[t]? = some b := by simpa using hb
        show a.tmps.getD t undef = b
        simp [hb']
      split at h2
      · rename_i d
        have hbv : b = .bool d := hr
        subst hbv
        cases d with
        | true =>
          simp only [brP, putK_eq] at h2
          exact wp_cond_true he (ihx c hd (r.know hb (av := .v (.one (.bool true))) rfl) h2)
        | false =>
          simp only [brP, putK_eq] at h2
          exact wp_cond_false he (ihy c hd (r.know hb (av := .v (.one (.bool false))) rfl) h2)
      · exact h2.elim
    | _ => exact h.elim
  | block id x ih =>
    intro c st a w Ok β Q hd r h
    refine wp_block (wp_mono (ih id hd r h) fun e a' w' hq => ?_)
    cases e with
    | normal => exact hq
    | exit i =>
      simp only [Exit.inBlock]
      obtain ⟨hd', st', Ok', β', hq, r'⟩ := hq
      simp only [blkC] at hq
      split
      · rename_i e; rw [if_pos e] at hq; exact ⟨hd', st', Ok', β', hq, r'⟩
      · rename_i e; rw [if_neg e] at hq; exact ⟨hd', st', Ok', β', hq, r'⟩
    | ret => exact hq
    | _ => exact hq.elim
  | loop x ih =>
    intro c st a w Ok β Q hd r h
    obtain ⟨keep, hk, n, h2⟩ := someK_iff h
    obtain ⟨st1, β1, h3, r1⟩ := normK_sound r h2
    refine wp_loop_ghost (fun n a w => a.defers = ds ∧ ∃ st Ok β, loopP (awp T E A x c) keep n st Q ∧ Rel B Ok0 w0 w Ok β st a.tmps.toList) n ⟨hd, st1, Ok, β1, h3, r1⟩ ?_
    rintro n a w ⟨hd, st, Ok, β, h, r⟩
    cases n with
    | zero => exact h.elim
    | succ n =>
      refine wp_mono (ih c hd r h) fun e a' w' hq => ?_
      cases e with
      | normal =>
        obtain ⟨hd', st', Ok', β', hq, r'⟩ := hq
        obtain ⟨st2, β2, h4, r2⟩ := normK_sound r' hq
        exact ⟨n, Nat.lt_succ_self n, hd', st2, Ok', β2, h4, r2⟩
      | exit i =>
        obtain ⟨hd', st', Ok', β', hq, r'⟩ := hq
        obtain ⟨st2, β2, h4, r2⟩ := normK_sound r' hq
        exact ⟨hd', st2, Ok', β2, h4, r2⟩
      | ret =>
        obtain ⟨hd', st', Ok', β', hq, r'⟩ := hq
        obtain ⟨st2, β2, h4, r2⟩ := normK_sound r' hq
        exact ⟨hd', st2, Ok', β2, h4, r2⟩
      | _ => exact hq.elim
  | exit id => intro c st a w Ok β Q hd r h; exact wp_exit ⟨hd, st, Ok, β, h, r⟩
  | ret => intro c st a w Ok β Q hd r h; exact wp_ret ⟨hd, st, Ok, β, h, r⟩
  | _ => intro c st a w Ok β Q hd r h; exact h.elim

/-! ### functions -/
def resRun (tmps : Array Value) : ResultVar → Sem Value
  | .tmp t => pure (tmps.getD t undef)
  | .cell a t => do loadVar t (← asAddr (tmps.getD a undef))
theorem loadAt_addr {t : TypeId} {v u : Value} (h : (Instr.loadAt t v).run P w = .ok u w) : (do loadVar t (← asAddr v) : Sem Value).run P w = .ok u w := by
  cases v with
  | pointer a =>
    cases a with
    | some a => simpa [Instr.loadAt, Instr.sureAddr, asAddr] using h
    | none => simp [Instr.loadAt, Instr.sureAddr, stuck] at h
  | _ => simp [Instr.loadAt, Instr.sureAddr, stuck] at h
theorem resK_sound (hT : ttOk P T = true) {st : St} {a : Act} (r : RelS w Ok β st a.tmps.toList) : ∀ {rs : List ResultVar} {Q : List V1 → Prop}, resK T st rs Q →
    ∃ vs us, Q vs ∧ All2 (RelV1 w Ok β) vs us ∧ (rs.mapM (resRun a.tmps)).run P w = .ok us w
  | [], Q, h => ⟨[], [], h, trivial, by simp⟩
  | .tmp t :: rs, Q, h => by
    obtain ⟨v, h2, hv⟩ := ev1_sound r h
    obtain ⟨vs, us, hq, hall, hrun⟩ := resK_sound hT r h2
    refine ⟨v :: vs, _ :: us, hq, ⟨hv, hall⟩, ?_⟩
    simp [List.mapM_cons, resRun, hrun, Act.eval]
  | .cell p t :: rs, Q, h => by
    obtain ⟨l, h2, hl⟩ := evL_sound r h
    obtain ⟨x, u, h3, hx, hload⟩ := loadK_sound hT r.h h2 hl
    obtain ⟨vs, us, hq, hall, hrun⟩ := resK_sound hT r h3
    refine ⟨x :: vs, u :: us, hq, ⟨hx, hall⟩, ?_⟩
    have h5 := loadAt_addr (hload w (.refl w))
    simp only [Act.eval] at h5
    simp only [List.mapM_cons, resRun]
    rw [Sem.run_bind, h5]
    simp [hrun]
theorem results_run {fn : Func} {tmps : Array Value} {us : List Value} (h : (fn.results.toList.mapM (resRun tmps)).run P w = .ok us w) : (results fn tmps).run P w = .ok (match us with | [u] => u | us => .tuple us.toArray) w := by
  have e : (fn.results.mapM (resRun tmps)).run P w = .ok us.toArray w := by
    rw [Array.mapM_eq_mapM_toList]
    simp [h]
  have e3 : results fn tmps = (fn.results.mapM (resRun tmps) >>= fun vs => pure (if h : vs.size = 1 then vs[0] else .tuple vs)) := by
    unfold results
    congr 1
  rw [e3, Sem.run_bind, e]
  cases us with
  | nil => rfl
  | cons u us => cases us <;> rfl
theorem exportK_sound {st : St} {a : Act} (r : Rel B Ok0 w0 w Ok β st a.tmps.toList) {n : Nat} {vs : List V1} {us : List Value} (hv : All2 (RelV1 w Ok β) vs us) {Q : List V1 → List Ob → Prop} (h : exportK n st vs Q) :
    ∃ res h' β', Q res h' ∧ All2 (RelV1 w Ok β') res us ∧ Rel B Ok0 w0 w Ok β' ⟨[], h'⟩ [] := by
  unfold exportK at h
  simp only at h
  obtain ⟨hn, h2⟩ := ifK_iff h
  obtain ⟨heap', hr, h3⟩ := someK_iff h2
  rw [v1sK_eq, obsK_eq] at h3
  obtain ⟨hH, hm⟩ := renH r.s.h hn hr
  exact ⟨_, _, _, h3, All2.map _ (hv.mono fun _ _ => RelV1.mapL _ rfl fun _ _ => ren_rel), ⟨hH, trivial⟩, r.fr, fun v g hv => r.wr v g (hm v hv), r.new, r.old⟩
theorem afun_sound (hT : ttOk P T = true) (hE : EnvOk P E) (hm : P.follows .mixedOrders = true) {A : Ann} {f : FuncId} {fn : Func} (hf : P.funcs[f]? = some fn) : SpecOk P f (afun T E A fn) := by
  intro args h K hk w0 Ok0 β0 vals hargs hH
  unfold afun at hk
  obtain ⟨c, hc, h2⟩ := someK_iff hk
  obtain ⟨hle, h3⟩ := ifK_iff h2
  rw [stK_eq] at h3
  have hlen := hargs.length
  refine calls_of_wp hf hc ?_
  have hB : ∀ g, Held w0 β0 g → g < w0.heap.size := fun g hg => hg.1
  have r : Rel (Held w0 β0) Ok0 w0 w0 Ok0 β0 ⟨args.map .v ++ List.replicate (fn.ntmps - args.length) (.v (.one .undef)), h⟩ (vals.toArray ++ Array.replicate (fn.ntmps - vals.toArray.size) undef).toList := by
    refine ⟨⟨hH, ?_⟩, ⟨rfl, rfl, rfl, Nat.le_refl _, fun _ _ => rfl⟩, fun v g hv hg hh => hh.2 v hv hg, fun g hg => .inl hg, fun g hg => hg⟩
    rw [Array.toList_append]
    refine All2.append (All2.map _ hargs) (All2.of_get (by simp [hlen]) fun i x y hx _ => ?_)
    have : x = .v (.one .undef) := by
      obtain ⟨_, hx⟩ := List.getElem?_eq_some_iff.1 hx
      simpa using hx.symm
    rw [this]; trivial
  refine wp_mono (awp_sound hT hE hm hB c 0 (a := { tmps := vals.toArray ++ Array.replicate (fn.ntmps - vals.toArray.size) undef, defers := [] }) rfl r h3) fun e a' w' hq => ?_
  have key : ∀ {st : St} {Ok : Nat → Prop} {β : List Value}, a'.defers = [] → (resK T st fn.results.toList fun vs => exportK h.length st vs K) → Rel (Held w0 β0) Ok0 w0 w' Ok β st a'.tmps.toList →
      a'.defers = [] ∧ ∃ v, (results fn a'.tmps).run P w' = .ok v w' ∧ Ret w0 Ok0 β0 K (.returned v) w' := by
    intro st Ok β hd hres r'
    obtain ⟨vs, us, hq, hall, hrun⟩ := resK_sound hT r'.s hres
    obtain ⟨res, h', β', hk', hrv, hrel⟩ := exportK_sound r' hall hq
    refine ⟨hd, _, results_run hrun, res, h', Ok, β', hk', ?_, hrel⟩
    cases res with
    | nil => trivial
    | cons x xs => cases us with
      | nil => exact hrv.elim
      | cons u us => cases xs with
        | nil => cases us with
          | nil => exact hrv.1
          | cons _ _ => exact hrv.2.elim
        | cons y ys => cases us with
          | nil => exact hrv.2.elim
          | cons u2 us => exact ⟨_, rfl, hrv⟩
  cases e with
  | normal =>
    obtain ⟨hd, st, Ok, β, hq, r'⟩ := hq
    exact key hd hq r'
  | ret =>
    obtain ⟨hd, st, Ok, β, hq, r'⟩ := hq
    exact key hd hq r'
  | exit i =>
    obtain ⟨hd, st, Ok, β, hq, r'⟩ := hq
    exact hq.elim
  | _ => exact hq.elim
/-- A spec that follows from what the machine makes of the body. -/
theorem SpecOk.of {f : FuncId} {p q : PT} (h : SpecOk P f p) (hpq : ∀ args K, q args [] K → p args [] K) (hq : ∀ args h K, q args h K → h = []) : SpecOk P f q := by
  intro args h K hk
  have := hq args h K hk
  subst this
  exact h args [] K (hpq args K hk)
end
end Go.AM
namespace Go.AM
open Go.RowKit
def shapeOk : K → V1 → Bool
  | .pair _ _, .agg _ => true
  | .pair _ _, .one _ => false
  | _, .one _ => true
  | _, .agg _ => false
/-- An argument as data. -/
def dK (k : K) (v : V1) (Q : k.ty → Prop) : Prop := ifK (shapeOk k v) (someK (deep [] k v.ls) Q)
def nfK : (k : K) → k.ty → V1
  | .int ik, x => .one (.int ik x)
  | .bool, b => .one (.bool b)
  | .str, s => .one (.str s)
  | .pair a b, x => .agg (leaves (.pair a b) x)
  | .slice e k, l => .one (.sl e k l)
section
variable {P : Program} {T : TT} {E : Env} {w w0 : World} {Ok Ok0 : Nat → Prop}
theorem nf_rel {k : K} {v : V1} {u : Value} {x : k.ty} (h : RelV1 w Ok [] v u) (hs : shapeOk k v = true) (hd : deep [] k v.ls = some x) : RelV1 w Ok [] (nfK k x) u := by
  have hdef := deep_def hd
  obtain ⟨hc, _⟩ := h.cells hdef
  have hH : True := trivial
  have hx : RdC w Ok k x u.cells.toList := by
    unfold deep at hd
    split at hd
    · rename_i ls' hb
      split at hd
      · rename_i y hu
        cases hd
        have hb2 : All2 (RelL w Ok []) ls' u.cells.toList := by
          clear hu h hdef hs
          revert ls'
          generalize u.cells.toList = us at hc
          generalize v.ls = ls at hc
          induction ls generalizing us with
          | nil => intro ls' hb; simp [borLs] at hb; subst hb; exact hc
          | cons l ls ih =>
            intro ls' hb
            cases us with
            | nil => exact hc.elim
            | cons u us =>
              simp only [borLs] at hb
              split at hb
              · rename_i y hy
                split at hb
                · rename_i s hs
                  cases hb
                  refine ⟨?_, ih us hc.2 s hs⟩
                  have h1 := hc.1
                  cases l <;> simp [borL] at hy <;> (subst hy; exact h1)
                · cases hb
              · cases hb
        obtain ⟨c, d, e, hc2, hd2⟩ := unleaf_sound hu hb2
        rw [hd2.nil_left, List.append_nil] at e
        rw [e]; exact hc2
      · cases hd
    · cases hd
  have hl := leaves_rel (β := []) hx
  cases v with
  | agg ls =>
    obtain ⟨vs, rfl, _⟩ := h
    cases k with
    | pair a b => exact ⟨vs, rfl, hl⟩
    | _ => simp [shapeOk] at hs
  | one l =>
    have h1 := (h.to (by rintro rfl; simp [isDef] at hdef)).def1 (by rintro rfl; simp [isDef] at hdef)
    have hu : u.cells = #[u] := by cases u <;> simp [Value.oneCell'] at h1 <;> rfl
    rw [hu] at hl
    cases k with
    | pair a b => simp [shapeOk] at hs
    | int ik => exact hl.1
    | bool => exact hl.1
    | str => exact hl.1
    | slice e k => exact hl.1
abbrev QT := List V1 → List Ob → Prop
def argsN : List V1 → List (Σ k : K, k.ty) → Prop
  | [], [] => True
  | v :: vs, ⟨k, x⟩ :: xs => (shapeOk k v = true ∧ deep [] k v.ls = some x) ∧ argsN vs xs
  | _, _ => False
theorem args_rel : ∀ {vs : List V1} {xs : List (Σ k : K, k.ty)} {us : List Value}, argsN vs xs → All2 (RelV1 w Ok []) vs us → All2 (RelV1 w Ok []) (xs.map fun x => nfK x.1 x.2) us
  | [], [], _, _, h => h
  | _ :: _, ⟨_, _⟩ :: _, [], _, h => h.elim
  | _ :: _, ⟨_, _⟩ :: _, _ :: _, hn, h => ⟨nf_rel h.1 hn.1.1 hn.1.2, args_rel hn.2 h.2⟩
  | [], _ :: _, _, h, _ => h.elim
  | _ :: _, [], _, h, _ => h.elim
theorem SpecOk.data {f : FuncId} {p q : PT} (hp : SpecOk P f p) (h : ∀ args hp Q, q args hp Q → hp = [] ∧ ∃ xs, argsN args xs ∧ p (xs.map fun x => nfK x.1 x.2) [] Q) : SpecOk P f q := by
  intro args hh K hq w0 Ok0 β0 vals hv hH
  obtain ⟨rfl, xs, hn, hp'⟩ := h args hh K hq
  have hb : β0 = [] := by
    have := hH.objs.length
    exact List.eq_nil_of_length_eq_zero this.symm
  subst hb
  exact hp _ [] K hp' w0 Ok0 [] vals (args_rel hn hv) hH
theorem dK_iff {k : K} {v : V1} {Q : k.ty → Prop} (h : dK k v Q) : ∃ x, (shapeOk k v = true ∧ deep [] k v.ls = some x) ∧ Q x := by
  obtain ⟨h1, h2⟩ := ifK_iff h
  obtain ⟨x, hx, hq⟩ := someK_iff h2
  exact ⟨x, ⟨h1, hx⟩, hq⟩
/-! specs by the number of arguments -/
def S0 (F : QT → Prop) : PT := fun args h Q => match args, h with
  | [], [] => F Q
  | _, _ => False
def S1 (k : K) (F : k.ty → QT → Prop) : PT := fun args h Q => match args, h with
  | [v], [] => dK k v fun x => F x Q
  | _, _ => False
def S2 (k1 k2 : K) (F : k1.ty → k2.ty → QT → Prop) : PT := fun args h Q => match args, h with
  | [v1, v2], [] => dK k1 v1 fun x => dK k2 v2 fun y => F x y Q
  | _, _ => False
def S3 (k1 k2 k3 : K) (F : k1.ty → k2.ty → k3.ty → QT → Prop) : PT := fun args h Q => match args, h with
  | [v1, v2, v3], [] => dK k1 v1 fun x => dK k2 v2 fun y => dK k3 v3 fun z => F x y z Q
  | _, _ => False
def S4 (k1 k2 k3 k4 : K) (F : k1.ty → k2.ty → k3.ty → k4.ty → QT → Prop) : PT := fun args h Q => match args, h with
  | [v1, v2, v3, v4], [] => dK k1 v1 fun x => dK k2 v2 fun y => dK k3 v3 fun z => dK k4 v4 fun u => F x y z u Q
  | _, _ => False
def S5 (k1 k2 k3 k4 k5 : K) (F : k1.ty → k2.ty → k3.ty → k4.ty → k5.ty → QT → Prop) : PT := fun args h Q => match args, h with
  | [v1, v2, v3, v4, v5], [] => dK k1 v1 fun x => dK k2 v2 fun y => dK k3 v3 fun z => dK k4 v4 fun u => dK k5 v5 fun t => F x y z u t Q
  | _, _ => False
variable (hT : ttOk P T = true) (hm : P.follows .mixedOrders = true)
include hT hm
theorem S0.ok {F : QT → Prop} (hE : EnvOk P E) {A : Ann} {f : FuncId} {fn : Func} (hf : P.funcs[f]? = some fn) (h : ∀ Q, F Q → Of (afun T E A fn [] [] Q)) : SpecOk P f (S0 F) := by
  refine (afun_sound hT hE hm (A := A) hf).data fun args hp Q hq => ?_
  unfold S0 at hq
  split at hq
  · exact ⟨rfl, [], trivial, (h Q hq).out⟩
  · exact hq.elim
theorem S1.ok {k : K} {F : k.ty → QT → Prop} (hE : EnvOk P E) {A : Ann} {f : FuncId} {fn : Func} (hf : P.funcs[f]? = some fn) (h : ∀ x Q, F x Q → Of (afun T E A fn [nfK k x] [] Q)) : SpecOk P f (S1 k F) := by
  refine (afun_sound hT hE hm (A := A) hf).data fun args hp Q hq => ?_
  unfold S1 at hq
  split at hq
  · obtain ⟨x, hx, hq⟩ := dK_iff hq
    exact ⟨rfl, [⟨k, x⟩], ⟨hx, trivial⟩, (h x Q hq).out⟩
  · exact hq.elim
theorem S2.ok {k1 k2 : K} {F : k1.ty → k2.ty → QT → Prop} (hE : EnvOk P E) {A : Ann} {f : FuncId} {fn : Func} (hf : P.funcs[f]? = some fn) (h : ∀ x y Q, F x y Q → Of (afun T E A fn [nfK k1 x, nfK k2 y] [] Q)) : SpecOk P f (S2 k1 k2 F) := by
  refine (afun_sound hT hE hm (A := A) hf).data fun args hp Q hq => ?_
  unfold S2 at hq
  split at hq
  · obtain ⟨x, hx, hq⟩ := dK_iff hq
    obtain ⟨y, hy, hq⟩ := dK_iff hq
    exact ⟨rfl, [⟨k1, x⟩, ⟨k2, y⟩], ⟨hx, hy, trivial⟩, (h x y Q hq).out⟩
  · exact hq.elim
theorem S3.ok {k1 k2 k3 : K} {F : k1.ty → k2.ty → k3.ty → QT → Prop} (hE : EnvOk P E) {A : Ann} {f : FuncId} {fn : Func} (hf : P.funcs[f]? = some fn) (h : ∀ x y z Q, F x y z Q → Of (afun T E A fn [nfK k1 x, nfK k2 y, nfK k3 z] [] Q)) :
    SpecOk P f (S3 k1 k2 k3 F) := by
  refine (afun_sound hT hE hm (A := A) hf).data fun args hp Q hq => ?_
  unfold S3 at hq
  split at hq
  · obtain ⟨x, hx, hq⟩ := dK_iff hq
    obtain ⟨y, hy, hq⟩ := dK_iff hq
    obtain ⟨z, hz, hq⟩ := dK_iff hq
    exact ⟨rfl, [⟨k1, x⟩, ⟨k2, y⟩, ⟨k3, z⟩], ⟨hx, hy, hz, trivial⟩, (h x y z Q hq).out⟩
  · exact hq.elim
theorem S4.ok {k1 k2 k3 k4 : K} {F : k1.ty → k2.ty → k3.ty → k4.ty → QT → Prop} (hE : EnvOk P E) {A : Ann} {f : FuncId} {fn : Func} (hf : P.funcs[f]? = some fn)
    (h : ∀ x y z u Q, F x y z u Q → Of (afun T E A fn [nfK k1 x, nfK k2 y, nfK k3 z, nfK k4 u] [] Q)) : SpecOk P f (S4 k1 k2 k3 k4 F) := by
  refine (afun_sound hT hE hm (A := A) hf).data fun args hp Q hq => ?_
  unfold S4 at hq
  split at hq
  · obtain ⟨x, hx, hq⟩ := dK_iff hq
    obtain ⟨y, hy, hq⟩ := dK_iff hq
    obtain ⟨z, hz, hq⟩ := dK_iff hq
    obtain ⟨u, hu, hq⟩ := dK_iff hq
    exact ⟨rfl, [⟨k1, x⟩, ⟨k2, y⟩, ⟨k3, z⟩, ⟨k4, u⟩], ⟨hx, hy, hz, hu, trivial⟩, (h x y z u Q hq).out⟩
  · exact hq.elim
theorem S5.ok {k1 k2 k3 k4 k5 : K} {F : k1.ty → k2.ty → k3.ty → k4.ty → k5.ty → QT → Prop} (hE : EnvOk P E) {A : Ann} {f : FuncId} {fn : Func} (hf : P.funcs[f]? = some fn)
    (h : ∀ x y z u t Q, F x y z u t Q → Of (afun T E A fn [nfK k1 x, nfK k2 y, nfK k3 z, nfK k4 u, nfK k5 t] [] Q)) : SpecOk P f (S5 k1 k2 k3 k4 k5 F) := by
  refine (afun_sound hT hE hm (A := A) hf).data fun args hp Q hq => ?_
  unfold S5 at hq
  split at hq
  · obtain ⟨x, hx, hq⟩ := dK_iff hq
    obtain ⟨y, hy, hq⟩ := dK_iff hq
    obtain ⟨z, hz, hq⟩ := dK_iff hq
    obtain ⟨u, hu, hq⟩ := dK_iff hq
    obtain ⟨t, ht, hq⟩ := dK_iff hq
    exact ⟨rfl, [⟨k1, x⟩, ⟨k2, y⟩, ⟨k3, z⟩, ⟨k4, u⟩, ⟨k5, t⟩], ⟨hx, hy, hz, hu, ht, trivial⟩, (h x y z u t Q hq).out⟩
  · exact hq.elim
omit hT hm
theorem EnvOk.nil : EnvOk P [] := fun _ _ h => by simp [elook] at h
theorem EnvOk.cons {f : FuncId} {p : PT} (h : SpecOk P f p) (he : entersB P f = true) (hE : EnvOk P E) : EnvOk P ((f, p) :: E) := by
  intro g q hq
  simp only [elook] at hq
  split at hq
  · rename_i e; cases hq; subst e; exact ⟨h, he⟩
  · exact hE g q hq
end
/-! ### small words for the plain part -/
theorem wrap_in {x : Int} (h1 : -9223372036854775808 ≤ x) (h2 : x ≤ 9223372036854775807) : IntKind.i64.wrap x = x := by
  rw [IntKind.wrap_i64]; omega
theorem getE_cons (k : K) (l : List k.ty) (i : Nat) (h : i < l.length) : l.drop i = getE k l i :: l.drop (i + 1) := by
  rw [List.drop_eq_getElem_cons h]; simp [getE, List.getD, h]
end Go.AM
namespace Go.AM
open Go.RowKit
def noDef (o : Oper) : Bool :=
  match o.op with
  | .defer _ => false
  | _ => true
theorem noDef_spec {o : Oper} (h : noDef o = true) : ∀ c, o.op ≠ .defer c := fun c e => by simp [noDef, e] at h
section
variable {P : Program} {T : TT} {E : Env} {w w' w0 : World} {B Ok0 Ok : Nat → Prop} {β : List Value} {l n : Nat}
theorem calls_round {f : FuncId} {args : Array Value} {R : Ending → World → Prop} (h : Calls P f args w R) : CallsIn (Fence.wide.inRound l) n P f args w R := CallsIn.inRound l (callsIn_wide.2 h)
theorem rows_round {row : String} {args : Array Value} {R : Value → World → Prop} (h : Rows P row args w R) : RowsIn (Fence.wide.inRound l) n P row args w R :=
  fun c cs _ => let ⟨v, w', r, s⟩ := h c cs; ⟨v, w', r, stepsIn_wide.2 s⟩
theorem op_round {o : Oper} {a : Act} {K : Act → World → Prop} {Q : Exit → Act → World → Prop} (h : o.wp P a w K Q) (hd : noDef o = true) : o.wpIn (Fence.wide.inRound l) n P a w K Q := by
  refine ⟨fun _ _ => trivial, ?_⟩
  have e : o.semAt (Fence.wide.inRound l).round a.eval = execOp a.eval o := Oper.semAt_some l _ _ (noDef_spec hd)
  rw [e]
  unfold Oper.wp at h
  generalize (execOp a.eval o).run P w = r at h
  cases r with
  | ok x w' =>
    cases x <;> simp only [Oper.upon, Oper.uponIn] at h ⊢ <;> first
      | exact h
      | exact ⟨fun h => by simp [Fence.wide, Fence.inRound] at h, calls_round h⟩
      | exact ⟨fun h => by simp [Fence.wide, Fence.inRound] at h, rows_round h⟩
      | exact h.elim
  | halt x w' => cases x <;> simp only [Oper.upon, Oper.uponIn] at h ⊢ <;> exact h
theorem list_round {ops : Array Oper} {Q : Exit → Act → World → Prop} (hQ : ¬ LetsOut Q) : ∀ (os : List Oper) {a : Act} {w : World}, os.all noDef = true → wpList P ops Q os a w → wpListIn (Fence.wide.inRound l) n P ops Q os a w
  | [], _, _, _, h => h
  | o :: os, a, w, hd, h => by
    simp only [List.all_cons, Bool.and_eq_true] at hd
    simp only [wpList] at h
    simp only [wpListIn]
    split
    · rename_i hw
      rw [if_pos hw] at h
      rcases h with h | h
      · exact op_round (Oper.wp_mono (fun a w h => list_round hQ os hd.2 h) h) hd.1
      · exact absurd h.2 hQ
    · rename_i hw
      rw [if_neg hw] at h
      exact ⟨fun _ _ => trivial, list_round hQ os hd.2 h⟩
theorem any_round {ops : Array Oper} {Q : Exit → Act → World → Prop} (hQ : ¬ LetsOut Q) (hd : ops.toList.all noDef = true) : ∀ (fuel : Nat) (listed : Array Bool) {a : Act} {w : World},
    wpAny P .any ops Q fuel listed a w → wpAnyIn (Fence.wide.inRound l) n P .any ops Q fuel listed a w
  | 0, _, _, _, h => h
  | fuel + 1, listed, a, w, h => by
    refine ⟨h.1, fun i hi => ?_⟩
    have h1 := h.2 i hi
    unfold wpOp at h1
    unfold wpOpIn
    cases ho : ops[i]? with
    | none => rw [ho] at h1; exact any_round hQ hd fuel _ h1
    | some o =>
      rw [ho] at h1
      have hdo : noDef o = true := List.all_eq_true.1 hd o (List.mem_of_getElem? (i := i) (by simpa using ho))
      dsimp only at h1 ⊢
      split
      · rename_i hw
        rw [if_pos hw] at h1
        rcases h1 with h1 | h1
        · exact op_round (Oper.wp_mono (fun a w h => any_round hQ hd fuel _ h) h1) hdo
        · exact absurd h1.2 hQ
      · rename_i hw
        rw [if_neg hw] at h1
        exact ⟨fun _ _ => trivial, any_round hQ hd fuel _ h1⟩
def roundB : Code → Bool
  | .skip => true
  | .region _ ops _ => ops.toList.all noDef
  | .seq a b => roundB a && roundB b
  | .cond _ a b => roundB a && roundB b
  | .block _ a => roundB a
  | .exit _ => true
  | .ret => true
  | _ => false
theorem not_out {ds : List Deferred} {Q : Ex → St → Prop} : ¬ LetsOut (PostX ds B Ok0 w0 Q) := fun ⟨_, _, h⟩ => h
theorem awpR_sound {ds : List Deferred} (hT : ttOk P T = true) (hE : EnvOk P E) (hm : P.follows .mixedOrders = true) (hB : ∀ g, B g → g < w0.heap.size) {A : Ann} : ∀ (code : Code) (c : Nat) {st : St} {a : Act} {w : World} {Ok : Nat → Prop} {β : List Value} {Q : Ex → St → Prop},
    roundB code = true → a.defers = ds → Rel B Ok0 w0 w Ok β st a.tmps.toList → awp T E A code c st Q → code.wpIn (Fence.wide.inRound l) n P (PostX ds B Ok0 w0 Q) a w := by
  intro code
  induction code with
  | skip => intro c st a w Ok β Q _ hd r h; exact wpIn_skip ⟨hd, st, Ok, β, h, r⟩
  | region id ops draw =>
    intro c st a w Ok β Q hb hd r h
    cases draw with
    | false => exact wpIn_region_list (list_round not_out _ hb (opsK_sound hT hE hB _ hd r h))
    | true =>
      obtain ⟨hsel, h2⟩ := ifK_iff h
      split at h2
      · exact wpIn_region_any hm (any_round not_out hb _ _ (wpAny_of_T _ _ _ _ (ordK_sound hT hE hB hsel ops.size _ hd r.drew h2)))
      · exact wpIn_region_any hm (any_round not_out hb _ _ (wpAny_of_T _ _ _ _ (ordB_sound hT hE hB hsel ops.size _ hd r.drew h2)))
  | seq x y ihx ihy =>
    intro c st a w Ok β Q hb hd r h
    simp only [roundB, Bool.and_eq_true] at hb
    refine wpIn_seq (wpIn_mono (ihx c hb.1 hd r h) fun e a' w' hq => ?_)
    cases e with
    | normal =>
      obtain ⟨hd', st', Ok', β', hq, r'⟩ := hq
      exact ihy c hb.2 hd' r' hq
    | exit id => exact hq
    | ret => exact hq
    | _ => exact hq.elim
  | cond t x y ihx ihy =>
    intro c st a w Ok β Q hb hd r h
    simp only [roundB, Bool.and_eq_true] at hb
    cases t with
    | tmp t =>
      obtain ⟨v, hv, h2⟩ := getK_iff h
      obtain ⟨b, hb', hr⟩ := r.s.s.get hv
      have he : a.eval (.tmp t) = b := by
        have hb' : a.tmps[t]? = some b := by simpa using hb'
        show a.tmps.getD t undef = b
        simp [hb']
      split at h2
      · rename_i d
        have hbv : b = .bool d := hr
        subst hbv
        cases d with
        | true =>
          simp only [brP, putK_eq] at h2
          exact wpIn_cond_true he (ihx c hb.1 hd (r.know hb' (av := .v (.one (.bool true))) rfl) h2)
        | false =>
          simp only [brP, putK_eq] at h2
          exact wpIn_cond_false he (ihy c hb.2 hd (r.know hb' (av := .v (.one (.bool false))) rfl) h2)
      · exact h2.elim
    | _ => exact h.elim
  | block id x ih =>
    intro c st a w Ok β Q hb hd r h
    refine wpIn_block (wpIn_mono (ih id hb hd r h) fun e a' w' hq => ?_)
    cases e with
    | normal => exact hq
    | exit i =>
      simp only [Exit.inBlock]
      obtain ⟨hd', st', Ok', β', hq, r'⟩ := hq
      simp only [blkC] at hq
      split
      · rename_i e; rw [if_pos e] at hq; exact ⟨hd', st', Ok', β', hq, r'⟩
      · rename_i e; rw [if_neg e] at hq; exact ⟨hd', st', Ok', β', hq, r'⟩
    | ret => exact hq
    | _ => exact hq.elim
  | exit id => intro c st a w Ok β Q _ hd r h; exact wpIn_exit ⟨hd, st, Ok, β, h, r⟩
  | ret => intro c st a w Ok β Q _ hd r h; exact wpIn_ret ⟨hd, st, Ok, β, h, r⟩
  | _ => intro c st a w Ok β Q hb hd r h; first | exact h.elim | (simp [roundB] at hb; done)
end
end Go.AM
namespace Go.AM
open Go.RowKit
/-- A value's own rows, as data that is only read. -/
def sealV (h : List Ob) : V1 → Option V1
  | .one .undef => some (.one .undef)
  | .one l => match borL h l with
    | some x => some (.one x)
    | none => none
  | .agg ls => match borLs h ls with
    | some s => some (.agg s)
    | none => none
def sealR (h : List Ob) : List V1 → Option (List V1)
  | [] => some []
  | x :: r => match sealV h x with
    | some y => match sealR h r with
      | some s => some (y :: s)
      | none => none
    | none => none
section
variable {P : Program} {T : TT} {E : Env} {w w0 : World} {Ok Ok' : Nat → Prop} {β : List Value}
theorem borL_free {h : List Ob} {l l' : Lf} {v : Value} (hb : borL h l = some l') {β' : List Value} (hr : RelL w Ok β l' v) : RelL w Ok β' l' v := by
  cases l <;> simp only [borL] at hb <;> first
    | (cases hb; exact hr)
    | (cases hb; done)
    | (split at hb
       · cases hb; exact hr
       · cases hb)
theorem borLs_free {h : List Ob} : ∀ {ls ls' : List Lf} {cs : List Value}, borLs h ls = some ls' → ∀ {β' : List Value}, All2 (RelL w Ok β) ls' cs → All2 (RelL w Ok β') ls' cs
  | [], _, _, hb, _, hr => by simp [borLs] at hb; subst hb; rw [hr.nil_left]; trivial
  | l :: ls, ls', cs, hb, β', hr => by
    simp only [borLs] at hb
    split at hb
    · rename_i y hy
      split at hb
      · rename_i s hs
        cases hb
        cases cs with
        | nil => exact hr.elim
        | cons c cs => exact ⟨borL_free hy hr.1, borLs_free hs hr.2⟩
      · cases hb
    · cases hb
theorem sealV_sound {h : List Ob} (hh : RelH w Ok β h) (hs : ∀ g, Ok g → Ok' g) (hall : ∀ v g, v ∈ β → blkOf v = some g → Ok' g) {x y : V1} {v : Value} (hx : sealV h x = some y) (hr : RelV1 w Ok β x v) : RelV1 w Ok' [] y v := by
  have hi : ∀ ls g, idBlk β (ownIds ls) g → Ok' g := fun ls g ⟨i, _, u, hu, hg⟩ => hall u g (List.mem_of_getElem? hu) hg
  cases x with
  | one l =>
    by_cases hl : l = .undef
    · subst hl; simp only [sealV] at hx; cases hx; trivial
    · have hx' : (match borL h l with | some x => some (V1.one x) | none => none) = some y := by cases l <;> first | exact absurd rfl hl | exact hx
      split at hx'
      · rename_i z hz
        cases hx'
        exact RelV1.of (borL_free hz (borL_sound hh hs hz (hi [l]) (hr.to hl)))
      · cases hx'
  | agg ls =>
    simp only [sealV] at hx
    split at hx
    · rename_i s hsl
      cases hx
      obtain ⟨vs, h1, h2⟩ := hr
      exact ⟨vs, h1, borLs_free hsl (borLs_sound hh hs hsl (hi ls) h2)⟩
    · cases hx
theorem sealR_sound {h : List Ob} (hh : RelH w Ok β h) (hs : ∀ g, Ok g → Ok' g) (hall : ∀ v g, v ∈ β → blkOf v = some g → Ok' g) : ∀ {xs ys : List V1} {vs : List Value}, sealR h xs = some ys → All2 (RelV1 w Ok β) xs vs → All2 (RelV1 w Ok' []) ys vs
  | [], _, _, hx, hr => by simp [sealR] at hx; subst hx; rw [hr.nil_left]; trivial
  | x :: xs, ys, vs, hx, hr => by
    simp only [sealR] at hx
    split at hx
    · rename_i y hy
      split at hx
      · rename_i s hs'
        cases hx
        cases vs with
        | nil => exact hr.elim
        | cons v vs => exact ⟨sealV_sound hh hs hall hy hr.1, sealR_sound hh hs hall hs' hr.2⟩
      · cases hx
    · cases hx
theorem sealR_len {h : List Ob} : ∀ {xs ys : List V1}, sealR h xs = some ys → ys.length = xs.length
  | [], _, hx => by simp [sealR] at hx; subst hx; rfl
  | x :: xs, ys, hx => by
    simp only [sealR] at hx
    split at hx
    · split at hx
      · rename_i s hs'; cases hx; simp [sealR_len hs']
      · cases hx
    · cases hx
/-- Results as data. -/
def nfL : List K → List V1 → (List V1 → Prop) → Prop
  | [], [], Q => Q []
  | k :: ks, v :: vs, Q => dK k v fun y => nfL ks vs fun r => Q (nfK k y :: r)
  | _, _, _ => False
theorem nfL_sound : ∀ {ks : List K} {vs : List V1} {us : List Value} {Q : List V1 → Prop}, nfL ks vs Q → All2 (RelV1 w Ok []) vs us → ∃ xs, Q xs ∧ All2 (RelV1 w Ok []) xs us ∧ xs.length = vs.length
  | [], [], us, Q, h, hr => ⟨[], h, hr, rfl⟩
  | k :: ks, v :: vs, [], Q, h, hr => hr.elim
  | k :: ks, v :: vs, u :: us, Q, h, hr => by
    obtain ⟨y, hy, h2⟩ := dK_iff h
    obtain ⟨xs, hq, hx, hl⟩ := nfL_sound h2 hr.2
    exact ⟨_, hq, ⟨nf_rel hr.1 hy.1 hy.2, hx⟩, by simp [hl]⟩
  | [], _ :: _, _, _, h, _ => h.elim
  | _ :: _, [], _, _, h, _ => h.elim
/-- Results sealed. -/
def sealPT (ks : List K) (p : PT) : PT := fun args h K => h = [] ∧ p args [] fun res h' => someK (sealR h' res) fun r => nfL ks r fun r => K r []
theorem SpecOk.sealing {f : FuncId} {p : PT} (ks : List K) (hp : SpecOk P f p) : SpecOk P f (sealPT ks p) := by
  rintro args h K ⟨rfl, hk⟩ w0 Ok0 β0 vals hargs hH
  have hb : β0 = [] := by
    have := hH.objs.length
    exact List.eq_nil_of_length_eq_zero this.symm
  subst hb
  refine Calls.mono (hp args [] _ hk w0 Ok0 [] vals hargs hH) fun e w' he => ?_
  cases e with
  | returned v =>
    obtain ⟨res, h', Ok', β', hq, hret, hrel⟩ := he
    obtain ⟨r0, hr, hq2⟩ := someK_iff hq
    clear hq
    let Okn : Nat → Prop := fun g => Ok' g ∨ ∃ u ∈ β', blkOf u = some g
    have hs : ∀ g, Ok' g → Okn g := fun _ => .inl
    have hall : ∀ u g, u ∈ β' → blkOf u = some g → Okn g := fun u g hu hg => .inr ⟨u, hu, hg⟩
    have hl := sealR_len hr
    have key : ∃ r, K r [] ∧ RetV w' Okn [] r v := by
      cases res with
      | nil =>
        simp [sealR] at hr; subst hr
        cases ks with
        | nil => exact ⟨[], hq2, trivial⟩
        | cons _ _ => exact hq2.elim
      | cons x xs =>
        cases xs with
        | nil =>
          have := sealR_sound hrel.s.h hs hall hr (vs := [v]) ⟨hret, trivial⟩
          obtain ⟨r, hk, hrv, hl2⟩ := nfL_sound hq2 this
          refine ⟨r, hk, ?_⟩
          cases r with
          | nil => rw [hl] at hl2; simp at hl2
          | cons y ys => cases ys with
            | nil => exact hrv.1
            | cons _ _ => rw [hl] at hl2; simp at hl2
        | cons x2 xs =>
          obtain ⟨vs, hv, hvs⟩ := hret
          have := sealR_sound hrel.s.h hs hall hr hvs
          obtain ⟨r, hk, hrv, hl2⟩ := nfL_sound hq2 this
          refine ⟨r, hk, ?_⟩
          cases r with
          | nil => rw [hl] at hl2; simp at hl2
          | cons y ys => cases ys with
            | nil => rw [hl] at hl2; simp at hl2
            | cons y2 ys => exact ⟨vs, hv, hrv⟩
    obtain ⟨r, hk, hrv⟩ := key
    refine ⟨r, [], Okn, [], hk, hrv, ⟨⟨trivial, fun i j v u g hi => by simp at hi, fun v g hv => by simp at hv, ?_, fun v g hv => by simp at hv⟩, trivial⟩, hrel.fr, fun v g hv => by simp at hv, ?_, fun g hg => .inl (hrel.old g hg)⟩
    · rintro g (hg | ⟨u, hu, hg⟩)
      · exact hrel.s.h.okLt g hg
      · exact hrel.s.h.lt u g hu hg
    · rintro g (hg | ⟨u, hu, hg⟩)
      · exact hrel.new g hg
      · exact .inr (hrel.wr u g hu hg)
  | _ => exact he
/-- What a function makes of its results before they go to Q. -/
abbrev SQ (ks : List K) (Q : QT) : QT := fun res h' => someK (sealR h' res) fun r => nfL ks r fun r => Q r []
variable (hT : ttOk P T = true) (hm : P.follows .mixedOrders = true)
include hT hm
theorem S0.okS (ks : List K) {F : QT → Prop} (hE : EnvOk P E) {A : Ann} {f : FuncId} {fn : Func} (hf : P.funcs[f]? = some fn) (h : ∀ Q, F Q → Of (afun T E A fn [] [] (SQ ks Q))) : SpecOk P f (S0 F) := by
  refine ((afun_sound hT hE hm (A := A) hf).sealing ks).data fun args hp Q hq => ?_
  unfold S0 at hq
  split at hq
  · exact ⟨rfl, [], trivial, rfl, (h Q hq).out⟩
  · exact hq.elim
theorem S1.okS (ks : List K) {k : K} {F : k.ty → QT → Prop} (hE : EnvOk P E) {A : Ann} {f : FuncId} {fn : Func} (hf : P.funcs[f]? = some fn) (h : ∀ x Q, F x Q → Of (afun T E A fn [nfK k x] [] (SQ ks Q))) : SpecOk P f (S1 k F) := by
  refine ((afun_sound hT hE hm (A := A) hf).sealing ks).data fun args hp Q hq => ?_
  unfold S1 at hq
  split at hq
  · obtain ⟨x, hx, hq⟩ := dK_iff hq
    exact ⟨rfl, [⟨k, x⟩], ⟨hx, trivial⟩, rfl, (h x Q hq).out⟩
  · exact hq.elim
theorem S2.okS (ks : List K) {k1 k2 : K} {F : k1.ty → k2.ty → QT → Prop} (hE : EnvOk P E) {A : Ann} {f : FuncId} {fn : Func} (hf : P.funcs[f]? = some fn) (h : ∀ x y Q, F x y Q → Of (afun T E A fn [nfK k1 x, nfK k2 y] [] (SQ ks Q))) : SpecOk P f (S2 k1 k2 F) := by
  refine ((afun_sound hT hE hm (A := A) hf).sealing ks).data fun args hp Q hq => ?_
  unfold S2 at hq
  split at hq
  · obtain ⟨x, hx, hq⟩ := dK_iff hq
    obtain ⟨y, hy, hq⟩ := dK_iff hq
    exact ⟨rfl, [⟨k1, x⟩, ⟨k2, y⟩], ⟨hx, hy, trivial⟩, rfl, (h x y Q hq).out⟩
  · exact hq.elim
theorem S3.okS (ks : List K) {k1 k2 k3 : K} {F : k1.ty → k2.ty → k3.ty → QT → Prop} (hE : EnvOk P E) {A : Ann} {f : FuncId} {fn : Func} (hf : P.funcs[f]? = some fn) (h : ∀ x y z Q, F x y z Q → Of (afun T E A fn [nfK k1 x, nfK k2 y, nfK k3 z] [] (SQ ks Q))) :
    SpecOk P f (S3 k1 k2 k3 F) := by
  refine ((afun_sound hT hE hm (A := A) hf).sealing ks).data fun args hp Q hq => ?_
  unfold S3 at hq
  split at hq
  · obtain ⟨x, hx, hq⟩ := dK_iff hq
    obtain ⟨y, hy, hq⟩ := dK_iff hq
    obtain ⟨z, hz, hq⟩ := dK_iff hq
    exact ⟨rfl, [⟨k1, x⟩, ⟨k2, y⟩, ⟨k3, z⟩], ⟨hx, hy, hz, trivial⟩, rfl, (h x y z Q hq).out⟩
  · exact hq.elim
theorem S4.okS (ks : List K) {k1 k2 k3 k4 : K} {F : k1.ty → k2.ty → k3.ty → k4.ty → QT → Prop} (hE : EnvOk P E) {A : Ann} {f : FuncId} {fn : Func} (hf : P.funcs[f]? = some fn)
    (h : ∀ x y z u Q, F x y z u Q → Of (afun T E A fn [nfK k1 x, nfK k2 y, nfK k3 z, nfK k4 u] [] (SQ ks Q))) : SpecOk P f (S4 k1 k2 k3 k4 F) := by
  refine ((afun_sound hT hE hm (A := A) hf).sealing ks).data fun args hp Q hq => ?_
  unfold S4 at hq
  split at hq
  · obtain ⟨x, hx, hq⟩ := dK_iff hq
    obtain ⟨y, hy, hq⟩ := dK_iff hq
    obtain ⟨z, hz, hq⟩ := dK_iff hq
    obtain ⟨u, hu, hq⟩ := dK_iff hq
    exact ⟨rfl, [⟨k1, x⟩, ⟨k2, y⟩, ⟨k3, z⟩, ⟨k4, u⟩], ⟨hx, hy, hz, hu, trivial⟩, rfl, (h x y z u Q hq).out⟩
  · exact hq.elim
end
end Go.AM
namespace Go.AM
open Go.RowKit
section
variable {P : Program} {T : TT} {E : Env} {w w0 : World} {Ok Ok' : Nat → Prop} {β : List Value}
/-- Arguments: as they are, or data in their own form. -/
def argsN2 : List V1 → List V1 → Prop
  | [], [] => True
  | v :: vs, x :: xs => (x = v ∨ ∃ (k : K) (y : k.ty), shapeOk k v = true ∧ deep [] k v.ls = some y ∧ x = nfK k y) ∧ argsN2 vs xs
  | _, _ => False
theorem args_rel2 : ∀ {vs xs : List V1} {us : List Value}, argsN2 vs xs → All2 (RelV1 w Ok []) vs us → All2 (RelV1 w Ok []) xs us
  | [], [], _, _, h => h
  | _ :: _, _ :: _, [], _, h => h.elim
  | _ :: _, _ :: _, _ :: _, hn, h => by
    refine ⟨?_, args_rel2 hn.2 h.2⟩
    rcases hn.1 with rfl | ⟨k, y, h1, h2, rfl⟩
    · exact h.1
    · exact nf_rel h.1 h1 h2
  | [], _ :: _, _, h, _ => h.elim
  | _ :: _, [], _, h, _ => h.elim
theorem SpecOk.data2 {f : FuncId} {p q : PT} (hp : SpecOk P f p) (h : ∀ args hp Q, q args hp Q → hp = [] ∧ ∃ xs, argsN2 args xs ∧ p xs [] Q) : SpecOk P f q := by
  intro args hh K hq w0 Ok0 β0 vals hv hH
  obtain ⟨rfl, xs, hn, hp'⟩ := h args hh K hq
  have hb : β0 = [] := by
    have := hH.objs.length
    exact List.eq_nil_of_length_eq_zero this.symm
  subst hb
  exact hp _ [] K hp' w0 Ok0 [] vals (args_rel2 hn hv) hH
end
end Go.AM
namespace Go.AM
@[reducible] def k7 : K := (.pair (.int .i64) (.pair (.int .i64) (.pair .bool (.int .u8))))
@[reducible] def k13 : K := (.pair .str (.int .u64))
@[reducible] def k72 : K := (.pair (.int .i64) (.int .i64))
@[reducible] def k74 : K := (.pair (.int .i64) (.pair k72 (.pair .str .str)))
@[reducible] def k76 : K := (.pair (.int .i64) k72)
@[reducible] def k45 : K := (.pair .str (.pair (.slice 75 k74) (.pair (.slice 77 k76) .str)))
@[reducible] def k23 : K := (.pair (.int .i64) (.pair (.int .i64) (.pair (.int .i64) (.slice 46 k45))))
@[reducible] def k26 : K := (.pair (.slice 4 .bool) (.pair (.slice 4 .bool) (.slice 4 .bool)))
@[reducible] def k59 : K := (.pair (.int .i64) (.pair (.int .i64) (.pair (.int .i64) (.int .i64))))
def tt : TT := [
  (2, { agg := false, zero := [.int .i64 0], kd := some (.int .i64), bytes := 8 }),
  (3, { agg := false, zero := [.int .i64 0], kd := some (.int .i64), bytes := 8 }),
  (4, { agg := false, zero := [.bool false], kd := some .bool, bytes := 1 }),
  (5, { agg := false, zero := [.int .u8 0], kd := some (.int .u8), bytes := 1 }),
  (6, { agg := false, zero := [.int .u8 0], kd := some (.int .u8), bytes := 1 }),
  (7, { agg := true, zero := [.int .i64 0, .int .i64 0, .bool false, .int .u8 0], kd := some k7, fields := [(0, 1, false), (1, 1, false), (2, 1, false), (3, 1, false)], bytes := 24 }),
  (8, { agg := true, zero := [.int .i64 0, .int .i64 0, .bool false, .int .u8 0], kd := some k7, fields := [(0, 1, false), (1, 1, false), (2, 1, false), (3, 1, false)], bytes := 24 }),
  (9, { agg := false, zero := [.str ⟨#[]⟩], kd := some .str, bytes := 16 }),
  (10, { agg := false, zero := [.str ⟨#[]⟩], kd := some .str, bytes := 16 }),
  (11, { agg := false, zero := [.str ⟨#[]⟩], kd := some .str, bytes := 16 }),
  (12, { agg := false, zero := [.int .u64 0], kd := some (.int .u64), bytes := 8 }),
  (13, { agg := true, zero := [.str ⟨#[]⟩, .int .u64 0], kd := some k13, fields := [(0, 1, false), (1, 1, false)], bytes := 24 }),
  (14, { agg := true, zero := [.str ⟨#[]⟩, .int .u64 0], kd := some k13, fields := [(0, 1, false), (1, 1, false)], bytes := 24 }),
  (15, { agg := false, zero := [.nilp], bytes := 8 }),
  (16, { agg := false, zero := [.nilp], bytes := 8 }),
  (17, { agg := false, zero := [.nilp], bytes := 8 }),
  (18, { agg := true, zero := [.nilp], fields := [(0, 1, false)], bytes := 8 }),
  (19, { agg := true, zero := [.nilp], fields := [(0, 1, false)], bytes := 8 }),
  (21, { agg := false, zero := [.int .i32 0], kd := some (.int .i32), bytes := 4 }),
  (22, { agg := false, zero := [.nils], kd := some (.slice 46 k45), elem := 46, bytes := 24 }),
  (23, { agg := true, zero := [.int .i64 0, .int .i64 0, .int .i64 0, .nils], kd := some k23, fields := [(0, 1, false), (1, 1, false), (2, 1, false), (3, 1, false)], bytes := 48 }),
  (24, { agg := true, zero := [.int .i64 0, .int .i64 0, .int .i64 0, .nils], kd := some k23, fields := [(0, 1, false), (1, 1, false), (2, 1, false), (3, 1, false)], bytes := 48 }),
  (25, { agg := false, zero := [.nils], kd := some (.slice 4 .bool), elem := 4, bytes := 24 }),
  (26, { agg := true, zero := [.nils, .nils, .nils], kd := some k26, fields := [(0, 1, false), (1, 1, false), (2, 1, false)], bytes := 72 }),
  (27, { agg := true, zero := [.nils, .nils, .nils], kd := some k26, fields := [(0, 1, false), (1, 1, false), (2, 1, false)], bytes := 72 }),
  (28, { agg := false, zero := [.nils], kd := some (.slice 25 (.slice 4 .bool)), elem := 25, bytes := 24 }),
  (32, { agg := false, zero := [.int .i64 0], kd := some (.int .i64), bytes := 8 }),
  (40, { agg := false, zero := [.nils], kd := some (.slice 3 (.int .i64)), elem := 3, bytes := 24 }),
  (43, { agg := false, zero := [.nils], kd := some (.slice 75 k74), elem := 75, bytes := 24 }),
  (44, { agg := false, zero := [.nils], kd := some (.slice 77 k76), elem := 77, bytes := 24 }),
  (45, { agg := true, zero := [.str ⟨#[]⟩, .nils, .nils, .str ⟨#[]⟩], kd := some k45, fields := [(0, 1, false), (1, 1, false), (2, 1, false), (3, 1, false)], bytes := 80 }),
  (46, { agg := true, zero := [.str ⟨#[]⟩, .nils, .nils, .str ⟨#[]⟩], kd := some k45, fields := [(0, 1, false), (1, 1, false), (2, 1, false), (3, 1, false)], bytes := 80 }),
  (48, { agg := false, zero := [.nils], kd := some (.slice 27 k26), elem := 27, bytes := 24 }),
  (59, { agg := true, zero := [.int .i64 0, .int .i64 0, .int .i64 0, .int .i64 0], kd := some k59, fields := [(0, 1, false), (1, 1, false), (2, 1, false), (3, 1, false)], bytes := 32 }),
  (60, { agg := true, zero := [.int .i64 0, .int .i64 0, .int .i64 0, .int .i64 0], kd := some k59, fields := [(0, 1, false), (1, 1, false), (2, 1, false), (3, 1, false)], bytes := 32 }),
  (64, { agg := false, zero := [.nilp], bytes := 8 }),
  (72, { agg := true, zero := [.int .i64 0, .int .i64 0], kd := some k72, fields := [(0, 1, false), (1, 1, false)], bytes := 16 }),
  (73, { agg := true, zero := [.int .i64 0, .int .i64 0], kd := some k72, fields := [(0, 1, false), (1, 1, false)], bytes := 16 }),
  (74, { agg := true, zero := [.int .i64 0, .int .i64 0, .int .i64 0, .str ⟨#[]⟩, .str ⟨#[]⟩], kd := some k74, fields := [(0, 1, false), (1, 2, true), (3, 1, false), (4, 1, false)], bytes := 56 }),
  (75, { agg := true, zero := [.int .i64 0, .int .i64 0, .int .i64 0, .str ⟨#[]⟩, .str ⟨#[]⟩], kd := some k74, fields := [(0, 1, false), (1, 2, true), (3, 1, false), (4, 1, false)], bytes := 56 }),
  (76, { agg := true, zero := [.int .i64 0, .int .i64 0, .int .i64 0], kd := some k76, fields := [(0, 1, false), (1, 2, true)], bytes := 24 }),
  (77, { agg := true, zero := [.int .i64 0, .int .i64 0, .int .i64 0], kd := some k76, fields := [(0, 1, false), (1, 2, true)], bytes := 24 }),
  (83, { agg := true, zero := [.nils, .nils, .nils], fields := [(0, 1, false), (1, 1, false), (2, 1, false)], elem := 25, len := 3, bytes := 72 }),
  (85, { agg := true, zero := [.int .i64 0, .int .i64 0, .int .i64 0], fields := [(0, 1, false), (1, 1, false), (2, 1, false)], elem := 3, len := 3, bytes := 24 }),
  (109, { agg := false, zero := [.undef], kv := some (9, 4), bytes := 8 }),
  (110, { agg := false, zero := [.nils], kd := some (.slice 9 .str), elem := 9, bytes := 24 }),
  (121, { agg := true, zero := [.bool false, .bool false, .bool false, .bool false], fields := [(0, 1, false), (1, 1, false), (2, 1, false), (3, 1, false)], elem := 4, len := 4, bytes := 4 }),
  (122, { agg := true, zero := [.bool false, .bool false], fields := [(0, 1, false), (1, 1, false)], elem := 4, len := 2, bytes := 2 }),
  (123, { agg := true, zero := [.bool false, .bool false, .bool false, .bool false, .bool false, .bool false, .bool false, .bool false], fields := [(0, 2, true), (2, 2, true), (4, 2, true), (6, 2, true)], elem := 122, len := 4, bytes := 8 }),
  (131, { agg := true, zero := [.nilp, .nilp, .nilp, .str ⟨#[]⟩], fields := [(0, 1, false), (1, 1, false), (2, 1, false), (3, 1, false)], bytes := 40 }),
  (132, { agg := true, zero := [.nilp, .nilp, .nilp, .str ⟨#[]⟩], fields := [(0, 1, false), (1, 1, false), (2, 1, false), (3, 1, false)], bytes := 40 }),
  (137, { agg := false, zero := [.int .u32 0], kd := some (.int .u32), bytes := 4 }),
  (138, { agg := false, zero := [.int .u8 0], kd := some (.int .u8), bytes := 1 }),
  (139, { agg := false, zero := [.int .u8 0], kd := some (.int .u8), bytes := 1 }),
  (141, { agg := false, zero := [.nilp], bytes := 8 }),
  (142, { agg := false, zero := [.int .i32 0], kd := some (.int .i32), bytes := 4 }),
  (143, { agg := false, zero := [.int .i32 0], kd := some (.int .i32), bytes := 4 })]
end Go.AM
namespace Go.AM
theorem tt_ok : ttOk Go.Proofs.Try.prog tt = true := by kernel_rfl
theorem mixed : Go.Proofs.Try.prog.follows .mixedOrders = true := by kernel_rfl
end Go.AM
namespace Go.AM
open Go.Proofs
abbrev ki : K := .int .i64
abbrev kbs : K := .slice 4 .bool
/-- addr.within -/
def within (x hi : Int) : Bool := bif decide (0 ≤ x) then decide (x ≤ hi) else false
def F52 (x hi : Int) (Q : QT) : Prop := Q [.one (.bool (within x hi))] []
def sp52 : PT := S2 ki ki F52
-- f52 "busbar/addr.within" ['3', '3'] -> ['4']
def A52 : Ann := []
def E52 : Env := []
def I52 (p0 : ((.int .i64) : K).ty) (p1 : ((.int .i64) : K).ty) : List V1 := [nfK (.int .i64) p0, nfK (.int .i64) p1]
def t52 (Q : List V1 → List Ob → Prop) (p0 : K.ty (K.int IntKind.i64)) (p1 : K.ty (K.int IntKind.i64)) : Prop :=
  brP (decide (p0 ≥ (0 : Int))) (Q [V1.one (Lf.bool (decide (p0 ≤ p1)))] []) (Q [V1.one (Lf.bool false)] [])
theorem t52_mono {Q : List V1 → List Ob → Prop} {Q' : List V1 → List Ob → Prop} (hq : ∀ r h, Q r h → Q' r h) (p0 : K.ty (K.int IntKind.i64)) (p1 : K.ty (K.int IntKind.i64)) :
    t52 Q p0 p1 → t52 Q' p0 p1 :=
  brM (hq _ _) (hq _ _)
theorem t52_eq (Q : List V1 → List Ob → Prop) (p0 : K.ty (K.int IntKind.i64)) (p1 : K.ty (K.int IntKind.i64)) :
    t52 Q p0 p1 = (afun tt E52 A52 Try.f52 (I52 p0 p1) [] Q) := by kernel_rfl
def H52 (Q : List V1 → List Ob → Prop) (p0 : K.ty (K.int IntKind.i64)) (p1 : K.ty (K.int IntKind.i64)) : Prop := t52 Q p0 p1
theorem ok52 (Q : List V1 → List Ob → Prop) (p0 : K.ty (K.int IntKind.i64)) (p1 : K.ty (K.int IntKind.i64)) (h : H52 Q p0 p1) : Of (afun tt E52 A52 Try.f52 (I52 p0 p1) [] Q) :=
  kcO (t52_eq Q p0 p1) (t52_mono (fun _ _ h => h) p0 p1 h)
theorem env52 : EnvOk Try.prog E52 := .nil
theorem spec52 : SpecOk Try.prog 52 sp52 := S2.ok tt_ok mixed env52 Try.func52 fun x y Q h => ok52 Q x y <| by
  unfold H52 t52; unfold F52 within at h
  refine brP_intro (fun c => ?_) (fun c => ?_) <;> simp_all
/-- image.is -/
def isIn (n : Nat) (x : Int) : Bool := bif decide (0 ≤ x) then decide (x < (n : Int)) else false
def F75 (l : List Bool) (x : Int) (Q : QT) : Prop := Q [.one (.bool (isIn l.length x))] []
def sp75 : PT := S2 kbs ki F75
-- f75 "busbar/image.is" ['25', '3'] -> ['4']
def A75 : Ann := []
def E75 : Env := []
def I75 (p0 : ((.slice 4 .bool) : K).ty) (p1 : ((.int .i64) : K).ty) : List V1 := [nfK (.slice 4 .bool) p0, nfK (.int .i64) p1]
def t75 (Q : List V1 → List Ob → Prop) (p0 : K.ty (K.slice (4 : TypeId) K.bool)) (p1 : K.ty (K.int IntKind.i64)) : Prop :=
  brP (decide (p1 ≥ (0 : Int))) (Q [V1.one (Lf.bool (decide (p1 < (↑(List.length p0) : Int))))] []) (Q [V1.one (Lf.bool false)] [])
theorem t75_mono {Q : List V1 → List Ob → Prop} {Q' : List V1 → List Ob → Prop} (hq : ∀ r h, Q r h → Q' r h) (p0 : K.ty (K.slice (4 : TypeId) K.bool)) (p1 : K.ty (K.int IntKind.i64)) :
    t75 Q p0 p1 → t75 Q' p0 p1 :=
  brM (hq _ _) (hq _ _)
theorem t75_eq (Q : List V1 → List Ob → Prop) (p0 : K.ty (K.slice (4 : TypeId) K.bool)) (p1 : K.ty (K.int IntKind.i64)) :
    t75 Q p0 p1 = (afun tt E75 A75 Try.f75 (I75 p0 p1) [] Q) := by kernel_rfl
def H75 (Q : List V1 → List Ob → Prop) (p0 : K.ty (K.slice (4 : TypeId) K.bool)) (p1 : K.ty (K.int IntKind.i64)) : Prop := t75 Q p0 p1
theorem ok75 (Q : List V1 → List Ob → Prop) (p0 : K.ty (K.slice (4 : TypeId) K.bool)) (p1 : K.ty (K.int IntKind.i64)) (h : H75 Q p0 p1) : Of (afun tt E75 A75 Try.f75 (I75 p0 p1) [] Q) :=
  kcO (t75_eq Q p0 p1) (t75_mono (fun _ _ h => h) p0 p1 h)
theorem env75 : EnvOk Try.prog E75 := .nil
theorem spec75 : SpecOk Try.prog 75 sp75 := S2.ok tt_ok mixed env75 Try.func75 fun x y Q h => ok75 Q x y <| by
  unfold H75 t75; unfold F75 isIn at h
  refine brP_intro (fun c => ?_) (fun c => ?_) <;> simp_all
/-- addr.Width -/
def width (s : k59.ty) (k : Int) : Int := bif k == 0 then s.1 else bif k == 1 then s.2.1 else bif k == 2 then s.2.2.1 else 0
def F74 (s : k59.ty) (k : Int) (Q : QT) : Prop := Q [.one (.int .i64 (width s k))] []
def sp74 : PT := S2 k59 ki F74
-- f74 "busbar/addr.Width" ['60', '3'] -> ['3']
def A74 : Ann := []
def E74 : Env := []
def I74 (p0 : (k59 : K).ty) (p1 : ((.int .i64) : K).ty) : List V1 := [nfK k59 p0, nfK (.int .i64) p1]
def t74 (Q : List V1 → List Ob → Prop) (p0 : K.ty k59) (p1 : K.ty (K.int IntKind.i64)) : Prop :=
  brP (p1 == (0 : Int)) (Q [V1.one (Lf.int IntKind.i64 p0.fst)] []) (brP (p1 == (1 : Int)) (Q [V1.one (Lf.int IntKind.i64 p0.snd.fst)] []) (brP (p1 == (2 : Int)) (Q [V1.one (Lf.int IntKind.i64 p0.snd.snd.fst)] []) (Q [V1.one (Lf.int IntKind.i64 (0 : Int))] [])))
theorem t74_mono {Q : List V1 → List Ob → Prop} {Q' : List V1 → List Ob → Prop} (hq : ∀ r h, Q r h → Q' r h) (p0 : K.ty k59) (p1 : K.ty (K.int IntKind.i64)) :
    t74 Q p0 p1 → t74 Q' p0 p1 :=
  brM (hq _ _) (brM (hq _ _) (brM (hq _ _) (hq _ _)))
theorem t74_eq (Q : List V1 → List Ob → Prop) (p0 : K.ty k59) (p1 : K.ty (K.int IntKind.i64)) :
    t74 Q p0 p1 = (afun tt E74 A74 Try.f74 (I74 p0 p1) [] Q) := by kernel_rfl
def H74 (Q : List V1 → List Ob → Prop) (p0 : K.ty k59) (p1 : K.ty (K.int IntKind.i64)) : Prop := t74 Q p0 p1
theorem ok74 (Q : List V1 → List Ob → Prop) (p0 : K.ty k59) (p1 : K.ty (K.int IntKind.i64)) (h : H74 Q p0 p1) : Of (afun tt E74 A74 Try.f74 (I74 p0 p1) [] Q) :=
  kcO (t74_eq Q p0 p1) (t74_mono (fun _ _ h => h) p0 p1 h)
theorem env74 : EnvOk Try.prog E74 := .nil
theorem spec74 : SpecOk Try.prog 74 sp74 := S2.ok tt_ok mixed env74 Try.func74 fun x y Q h => ok74 Q x y <| by
  unfold H74 t74; unfold F74 width at h
  refine brP_intro (fun c => ?_) (fun c => ?_)
  · simp_all
  · refine brP_intro (fun c => ?_) (fun c => ?_)
    · simp_all
    · refine brP_intro (fun c => ?_) (fun c => ?_) <;> simp_all
def sp76 : PT := S2 k59 ki F74
-- f76 "busbar/busbarref01.Width" ['60', '3'] -> ['3']
def A76 : Ann := []
def E76 : Env := []
def I76 (p0 : (k59 : K).ty) (p1 : ((.int .i64) : K).ty) : List V1 := [nfK k59 p0, nfK (.int .i64) p1]
def t76 (Q : List V1 → List Ob → Prop) (p0 : K.ty k59) (p1 : K.ty (K.int IntKind.i64)) : Prop :=
  brP (p1 == (0 : Int)) (Q [V1.one (Lf.int IntKind.i64 p0.fst)] []) (brP (p1 == (1 : Int)) (Q [V1.one (Lf.int IntKind.i64 p0.snd.fst)] []) (brP (p1 == (2 : Int)) (Q [V1.one (Lf.int IntKind.i64 p0.snd.snd.fst)] []) (Q [V1.one (Lf.int IntKind.i64 (0 : Int))] [])))
theorem t76_mono {Q : List V1 → List Ob → Prop} {Q' : List V1 → List Ob → Prop} (hq : ∀ r h, Q r h → Q' r h) (p0 : K.ty k59) (p1 : K.ty (K.int IntKind.i64)) :
    t76 Q p0 p1 → t76 Q' p0 p1 :=
  brM (hq _ _) (brM (hq _ _) (brM (hq _ _) (hq _ _)))
theorem t76_eq (Q : List V1 → List Ob → Prop) (p0 : K.ty k59) (p1 : K.ty (K.int IntKind.i64)) :
    t76 Q p0 p1 = (afun tt E76 A76 Try.f76 (I76 p0 p1) [] Q) := by kernel_rfl
def H76 (Q : List V1 → List Ob → Prop) (p0 : K.ty k59) (p1 : K.ty (K.int IntKind.i64)) : Prop := t76 Q p0 p1
theorem ok76 (Q : List V1 → List Ob → Prop) (p0 : K.ty k59) (p1 : K.ty (K.int IntKind.i64)) (h : H76 Q p0 p1) : Of (afun tt E76 A76 Try.f76 (I76 p0 p1) [] Q) :=
  kcO (t76_eq Q p0 p1) (t76_mono (fun _ _ h => h) p0 p1 h)
theorem env76 : EnvOk Try.prog E76 := .nil
theorem spec76 : SpecOk Try.prog 76 sp76 := S2.ok tt_ok mixed env76 Try.func76 fun x y Q h => ok76 Q x y <| by
  unfold H76 t76; unfold F74 width at h
  refine brP_intro (fun c => ?_) (fun c => ?_)
  · simp_all
  · refine brP_intro (fun c => ?_) (fun c => ?_)
    · simp_all
    · refine brP_intro (fun c => ?_) (fun c => ?_) <;> simp_all
/-- addr.CheckAddr -/
def checkAddr (s : k59.ty) (a : k72.ty) : Int := bif !within a.1 2 then 8 else bif decide (a.2 < 0) then 3 else bif decide (a.2 ≥ width s a.1) then 3 else 0
def F69 (s : k59.ty) (a : k72.ty) (Q : QT) : Prop := Q [.one (.int .i64 (checkAddr s a))] []
def sp69 : PT := S2 k59 k72 F69
-- f69 "busbar/addr.CheckAddr" ['60', '73'] -> ['32']
def A69 : Ann := []
def E69 : Env := [(52, sp52), (74, sp74)]
def I69 (p0 : (k59 : K).ty) (p1 : (k72 : K).ty) : List V1 := [nfK k59 p0, nfK k72 p1]
def t69 (Q : List V1 → List Ob → Prop) (p0 : K.ty k59) (p1 : K.ty k72) : Prop :=
  brP (!within p1.fst (2 : Int)) (Q [V1.one (Lf.int IntKind.i64 (8 : Int))] []) (brP (decide (p1.snd < (0 : Int))) (Q [V1.one (Lf.int IntKind.i64 (3 : Int))] []) (brP (decide (p1.snd ≥ width p0 p1.fst)) (Q [V1.one (Lf.int IntKind.i64 (3 : Int))] []) (Q [V1.one (Lf.int IntKind.i64 (0 : Int))] [])))
theorem t69_mono {Q : List V1 → List Ob → Prop} {Q' : List V1 → List Ob → Prop} (hq : ∀ r h, Q r h → Q' r h) (p0 : K.ty k59) (p1 : K.ty k72) :
    t69 Q p0 p1 → t69 Q' p0 p1 :=
  brM (hq _ _) (brM (hq _ _) (brM (hq _ _) (hq _ _)))
theorem t69_eq (Q : List V1 → List Ob → Prop) (p0 : K.ty k59) (p1 : K.ty k72) :
    t69 Q p0 p1 = (afun tt E69 A69 Try.f69 (I69 p0 p1) [] Q) := by kernel_rfl
def H69 (Q : List V1 → List Ob → Prop) (p0 : K.ty k59) (p1 : K.ty k72) : Prop := t69 Q p0 p1
theorem ok69 (Q : List V1 → List Ob → Prop) (p0 : K.ty k59) (p1 : K.ty k72) (h : H69 Q p0 p1) : Of (afun tt E69 A69 Try.f69 (I69 p0 p1) [] Q) :=
  kcO (t69_eq Q p0 p1) (t69_mono (fun _ _ h => h) p0 p1 h)
theorem env69 : EnvOk Try.prog E69 := .cons spec52 (by kernel_rfl) <| .cons spec74 (by kernel_rfl) <| .nil
theorem spec69 : SpecOk Try.prog 69 sp69 := S2.ok tt_ok mixed env69 Try.func69 fun x y Q h => ok69 Q x y <| by
  unfold H69 t69; unfold F69 checkAddr at h
  refine brP_intro (fun c => ?_) (fun c => ?_)
  · simp_all
  · refine brP_intro (fun c => ?_) (fun c => ?_)
    · simp_all
    · refine brP_intro (fun c => ?_) (fun c => ?_) <;> simp_all
def sp73 : PT := S2 k59 k72 F69
-- f73 "busbar/busbarref01.CheckAddr" ['60', '73'] -> ['3']
def A73 : Ann := []
def E73 : Env := [(76, sp76)]
def I73 (p0 : (k59 : K).ty) (p1 : (k72 : K).ty) : List V1 := [nfK k59 p0, nfK k72 p1]
def t73 (Q : List V1 → List Ob → Prop) (p0 : K.ty k59) (p1 : K.ty k72) : Prop :=
  brP (decide (p1.fst < (0 : Int))) (Q [V1.one (Lf.int IntKind.i64 (8 : Int))] []) (brP (decide (p1.fst > (2 : Int))) (Q [V1.one (Lf.int IntKind.i64 (8 : Int))] []) (brP (decide (p1.snd < (0 : Int))) (Q [V1.one (Lf.int IntKind.i64 (3 : Int))] []) (brP (decide (p1.snd ≥ width p0 p1.fst)) (Q [V1.one (Lf.int IntKind.i64 (3 : Int))] []) (Q [V1.one (Lf.int IntKind.i64 (0 : Int))] []))))
theorem t73_mono {Q : List V1 → List Ob → Prop} {Q' : List V1 → List Ob → Prop} (hq : ∀ r h, Q r h → Q' r h) (p0 : K.ty k59) (p1 : K.ty k72) :
    t73 Q p0 p1 → t73 Q' p0 p1 :=
  brM (hq _ _) (brM (hq _ _) (brM (hq _ _) (brM (hq _ _) (hq _ _))))
theorem t73_eq (Q : List V1 → List Ob → Prop) (p0 : K.ty k59) (p1 : K.ty k72) :
    t73 Q p0 p1 = (afun tt E73 A73 Try.f73 (I73 p0 p1) [] Q) := by kernel_rfl
def H73 (Q : List V1 → List Ob → Prop) (p0 : K.ty k59) (p1 : K.ty k72) : Prop := t73 Q p0 p1
theorem ok73 (Q : List V1 → List Ob → Prop) (p0 : K.ty k59) (p1 : K.ty k72) (h : H73 Q p0 p1) : Of (afun tt E73 A73 Try.f73 (I73 p0 p1) [] Q) :=
  kcO (t73_eq Q p0 p1) (t73_mono (fun _ _ h => h) p0 p1 h)
theorem env73 : EnvOk Try.prog E73 := .cons spec76 (by kernel_rfl) <| .nil
theorem spec73 : SpecOk Try.prog 73 sp73 := S2.ok tt_ok mixed env73 Try.func73 fun x y Q h => ok73 Q x y <| by
  unfold H73 t73; unfold F69 checkAddr within at h
  refine brP_intro (fun c => ?_) (fun c => ?_)
  · have : ¬ (0 ≤ y.1) := by simpa using c
    simp_all
  · refine brP_intro (fun d => ?_) (fun d => ?_)
    · have h0 : 0 ≤ y.1 := by simpa using c
      have h2 : ¬ (y.1 ≤ 2) := by simpa using d
      simp_all
    · have h0 : 0 ≤ y.1 := by simpa using c
      have h2 : y.1 ≤ 2 := by simpa using d
      refine brP_intro (fun c => ?_) (fun c => ?_)
      · simp_all
      · refine brP_intro (fun c => ?_) (fun c => ?_) <;> simp_all
/-- image.Get -/
def get (l : List Bool) (i : Int) : Bool × Int := bif isIn l.length i then (getE .bool l i, 0) else (false, 3)
def F70 (l : List Bool) (i : Int) (Q : QT) : Prop := Q [.one (.bool (get l i).1), .one (.int .i64 (get l i).2)] []
def sp70 : PT := S2 kbs ki F70
-- f70 "busbar/image.Get" ['25', '3'] -> ['4', '32']
def A70 : Ann := []
def E70 : Env := [(75, sp75)]
def I70 (p0 : ((.slice 4 .bool) : K).ty) (p1 : ((.int .i64) : K).ty) : List V1 := [nfK (.slice 4 .bool) p0, nfK (.int .i64) p1]
def t70 (Q : List V1 → List Ob → Prop) (p0 : K.ty (K.slice (4 : TypeId) K.bool)) (p1 : K.ty (K.int IntKind.i64)) : Prop :=
  brP (!isIn (List.length p0) p1) (Q [V1.one (Lf.bool false), V1.one (Lf.int IntKind.i64 (3 : Int))] []) (bound p1 (List.length p0) ∧ Q [V1.one (Lf.bool (getE K.bool p0 p1)), V1.one (Lf.int IntKind.i64 (0 : Int))] [])
theorem t70_mono {Q : List V1 → List Ob → Prop} {Q' : List V1 → List Ob → Prop} (hq : ∀ r h, Q r h → Q' r h) (p0 : K.ty (K.slice (4 : TypeId) K.bool)) (p1 : K.ty (K.int IntKind.i64)) :
    t70 Q p0 p1 → t70 Q' p0 p1 :=
  brM (hq _ _) (andM (id) (hq _ _))
theorem t70_eq (Q : List V1 → List Ob → Prop) (p0 : K.ty (K.slice (4 : TypeId) K.bool)) (p1 : K.ty (K.int IntKind.i64)) :
    t70 Q p0 p1 = (afun tt E70 A70 Try.f70 (I70 p0 p1) [] Q) := by kernel_rfl
def H70 (Q : List V1 → List Ob → Prop) (p0 : K.ty (K.slice (4 : TypeId) K.bool)) (p1 : K.ty (K.int IntKind.i64)) : Prop := t70 Q p0 p1
theorem ok70 (Q : List V1 → List Ob → Prop) (p0 : K.ty (K.slice (4 : TypeId) K.bool)) (p1 : K.ty (K.int IntKind.i64)) (h : H70 Q p0 p1) : Of (afun tt E70 A70 Try.f70 (I70 p0 p1) [] Q) :=
  kcO (t70_eq Q p0 p1) (t70_mono (fun _ _ h => h) p0 p1 h)
theorem env70 : EnvOk Try.prog E70 := .cons spec75 (by kernel_rfl) <| .nil
theorem isIn_iff {n : Nat} {x : Int} : isIn n x = true ↔ bound x n := by
  unfold isIn bound
  by_cases h : 0 ≤ x <;> simp [h]
theorem spec70 : SpecOk Try.prog 70 sp70 := S2.ok tt_ok mixed env70 Try.func70 fun x y Q h => ok70 Q x y <| by
  unfold H70 t70; unfold F70 get at h
  refine brP_intro (fun c => ?_) (fun c => ?_)
  · simp_all
  · have c : isIn x.length y = true := by simpa using c
    exact ⟨isIn_iff.1 c, by simpa [c] using h⟩
end Go.AM
namespace Go.AM
open Go.Proofs
def isEdge (c : k74.ty) : Bool := bif c.1 == 2 then true else c.1 == 3
def F51 (c : k74.ty) (Q : QT) : Prop := Q [.one (.bool (isEdge c))] []
def sp51 : PT := S1 k74 F51
-- f51 "busbar/rungeval.sees" ['75'] -> ['4']
def A51 : Ann := []
def E51 : Env := []
def I51 (p0 : (k74 : K).ty) : List V1 := [nfK k74 p0]
def t51 (Q : List V1 → List Ob → Prop) (p0 : K.ty k74) : Prop :=
  brP (p0.fst == (2 : Int)) (Q [V1.one (Lf.bool true)] []) (Q [V1.one (Lf.bool (p0.fst == (3 : Int)))] [])
theorem t51_mono {Q : List V1 → List Ob → Prop} {Q' : List V1 → List Ob → Prop} (hq : ∀ r h, Q r h → Q' r h) (p0 : K.ty k74) :
    t51 Q p0 → t51 Q' p0 :=
  brM (hq _ _) (hq _ _)
theorem t51_eq (Q : List V1 → List Ob → Prop) (p0 : K.ty k74) :
    t51 Q p0 = (afun tt E51 A51 Try.f51 (I51 p0) [] Q) := by kernel_rfl
def H51 (Q : List V1 → List Ob → Prop) (p0 : K.ty k74) : Prop := t51 Q p0
theorem ok51 (Q : List V1 → List Ob → Prop) (p0 : K.ty k74) (h : H51 Q p0) : Of (afun tt E51 A51 Try.f51 (I51 p0) [] Q) :=
  kcO (t51_eq Q p0) (t51_mono (fun _ _ h => h) p0 h)
theorem env51 : EnvOk Try.prog E51 := .nil
theorem spec51 : SpecOk Try.prog 51 sp51 := S1.ok tt_ok mixed env51 Try.func51 fun x Q h => ok51 Q x <| by
  unfold H51 t51; unfold F51 isEdge at h
  refine brP_intro (fun c => ?_) (fun c => ?_) <;> simp_all
-- f31 "busbar/rungeval.EdgeCount" ['46'] -> ['3']
def A31 : Ann := [(0, [3, 7, 8, 9], [3], [2])]
def E31 : Env := [(51, sp51)]
def I31 (p0 : (k45 : K).ty) : List V1 := [nfK k45 p0]
noncomputable def L31_0 : Code := Code.a (Code.a (Code.b (Code.a (Code.b (Code.b (Func.code Try.f31))))))
def S31_0 (x3 : Int) (l7 : List (K.ty k74)) (x8 : Int) (x9 : Int) : St := sp (19 : Nat) [((3 : Nat), V.v (V1.one (Lf.int IntKind.i64 x3))), ((7 : Nat), V.v (V1.one (Lf.sl (75 : TypeId) k74 l7))), ((8 : Nat), V.v (V1.one (Lf.int IntKind.i64 x8))), ((9 : Nat), V.v (V1.one (Lf.int IntKind.i64 x9)))] []
def X31_0_0 (x3 : Int) : St := sp (19 : Nat) [((3 : Nat), V.v (V1.one (Lf.int IntKind.i64 x3)))] []
def t31_0 (again : Int → List (K.ty k74) → Int → Int → Prop) (R0 : Int → Prop) (x3 : Int) (l7 : List (K.ty k74)) (x8 : Int) (x9 : Int) : Prop :=
  brP (decide (x9 < x8)) (bound x9 (List.length l7) ∧ brP (isEdge (getE k74 l7 x9)) (again (IntKind.wrap IntKind.i64 (x3 + (1 : Int))) l7 x8 (IntKind.wrap IntKind.i64 (x9 + (1 : Int)))) (again x3 l7 x8 (IntKind.wrap IntKind.i64 (x9 + (1 : Int))))) (R0 x3)
theorem t31_0_mono {again : Int → List (K.ty k74) → Int → Int → Prop} {R0 : Int → Prop} {again' : Int → List (K.ty k74) → Int → Int → Prop} {R0' : Int → Prop} (ha : ∀ x3 l7 x8 x9, again x3 l7 x8 x9 → again' x3 l7 x8 x9) (hr0 : ∀ x3, R0 x3 → R0' x3) (x3 : Int) (l7 : List (K.ty k74)) (x8 : Int) (x9 : Int) :
    t31_0 again R0 x3 l7 x8 x9 → t31_0 again' R0' x3 l7 x8 x9 :=
  brM (andM (id) (brM (ha _ _ _ _) (ha _ _ _ _))) (hr0 _)
theorem t31_0_eq (n : Nat) (Q : Ex → St → Prop) (x3 : Int) (l7 : List (K.ty k74)) (x8 : Int) (x9 : Int) :
    t31_0 (fun x3 l7 x8 x9 => loopP (awp tt E31 A31 L31_0 0) ([(3 : Nat), (7 : Nat), (8 : Nat), (9 : Nat)], [(3 : Nat)], [(2 : Nat)]) n (S31_0 x3 l7 x8 x9) Q) (fun x3 => Q (Ex.exit (nat_lit 0)) (X31_0_0 x3)) x3 l7 x8 x9 = (loopP (awp tt E31 A31 L31_0 0) ([(3 : Nat), (7 : Nat), (8 : Nat), (9 : Nat)], [(3 : Nat)], [(2 : Nat)]) (n + 1) (S31_0 x3 l7 x8 x9) Q) := by kernel_rfl
def G31_0 (R0 : Int → Prop) : Nat → Int → List (K.ty k74) → Int → Int → Prop
  | 0, _, _, _, _ => False
  | n + 1, x3, l7, x8, x9 => t31_0 (G31_0 R0 n) R0 x3 l7 x8 x9
theorem T31_0 {R0 : Int → Prop} (Q : Ex → St → Prop) (hr0 : ∀ x3, R0 x3 → Of (Q (Ex.exit (nat_lit 0)) (X31_0_0 x3))) : ∀ (n : Nat) (x3 : Int) (l7 : List (K.ty k74)) (x8 : Int) (x9 : Int), G31_0 R0 n x3 l7 x8 x9 → Of (loopP (awp tt E31 A31 L31_0 0) ([(3 : Nat), (7 : Nat), (8 : Nat), (9 : Nat)], [(3 : Nat)], [(2 : Nat)]) n (S31_0 x3 l7 x8 x9) Q) := by
  intro n
  induction n with
  | zero => intro x3 l7 x8 x9 h; exact h.elim
  | succ n ih =>
    intro x3 l7 x8 x9 h
    exact kcO (t31_0_eq n Q x3 l7 x8 x9) (t31_0_mono (fun _ _ _ _ h => (ih _ _ _ _ h).out) (fun _ h => (hr0 _ h).out) x3 l7 x8 x9 h)
def t31 (Q : List V1 → List Ob → Prop) (lp0 : K.ty k45 → Prop) (p0 : K.ty k45) : Prop :=
  lp0 p0
theorem t31_mono {Q : List V1 → List Ob → Prop} {Q' : List V1 → List Ob → Prop} {lp0 : K.ty k45 → Prop} {lp0' : K.ty k45 → Prop} (hq : ∀ r h, Q r h → Q' r h) (hlp0 : ∀ p0, lp0 p0 → lp0' p0) (p0 : K.ty k45) :
    t31 Q lp0 p0 → t31 Q' lp0' p0 :=
  hlp0 _
theorem t31_eq (Q : List V1 → List Ob → Prop) (p0 : K.ty k45) :
    t31 Q (fun p0 => ∃ m, loopP (awp tt E31 A31 L31_0 0) ([(3 : Nat), (7 : Nat), (8 : Nat), (9 : Nat)], [(3 : Nat)], [(2 : Nat)]) m (S31_0 ((0 : Int)) (p0.snd.fst) ((↑(List.length p0.snd.fst) : Int)) ((0 : Int))) (blkC (0 : Nat) (seqC (awp tt E31 A31 (Code.b (Code.b (Code.b (Func.code Try.f31)))) (0 : Nat)) (topC tt Try.f31 0 Q)))) p0 = (afun tt E31 A31 Try.f31 (I31 p0) [] Q) := by kernel_rfl
def t31c0x0 (Q : List V1 → List Ob → Prop) (p0 : K.ty k45) (x3e1 : Int) : Prop :=
  Q [V1.one (Lf.int IntKind.i64 x3e1)] []
theorem t31c0x0_mono {Q : List V1 → List Ob → Prop} {Q' : List V1 → List Ob → Prop} (hq : ∀ r h, Q r h → Q' r h) (p0 : K.ty k45) (x3e1 : Int) :
    t31c0x0 Q p0 x3e1 → t31c0x0 Q' p0 x3e1 :=
  hq _ _
theorem t31c0x0_eq (Q : List V1 → List Ob → Prop) (p0 : K.ty k45) (x3e1 : Int) :
    t31c0x0 Q p0 x3e1 = ((blkC (0 : Nat) (seqC (awp tt E31 A31 (Code.b (Code.b (Code.b (Func.code Try.f31)))) (0 : Nat)) (topC tt Try.f31 0 Q))) (Ex.exit (nat_lit 0)) (X31_0_0 x3e1)) := by kernel_rfl
def H31 (Q : List V1 → List Ob → Prop) (p0 : K.ty k45) : Prop := t31 Q (fun p0 => ∃ m, G31_0 (fun x3e1 => t31c0x0 Q p0 x3e1) m ((0 : Int)) (p0.snd.fst) ((↑(List.length p0.snd.fst) : Int)) ((0 : Int))) p0
theorem ok31 (Q : List V1 → List Ob → Prop) (p0 : K.ty k45) (h : H31 Q p0) : Of (afun tt E31 A31 Try.f31 (I31 p0) [] Q) :=
  kcO (t31_eq Q p0) (t31_mono (fun _ _ h => h) (fun p0 ⟨m, h⟩ => ⟨m, (T31_0 _ (fun x3e1 h => kcO (t31c0x0_eq _ _ _) (t31c0x0_mono (fun _ _ h => h) _ _ h)) m _ _ _ _ h).out⟩) p0 h)
theorem env31 : EnvOk Try.prog E31 := .cons spec51 (by kernel_rfl) <| .nil
theorem loop31 (l : List k74.ty) (R : Int → Prop) (hl : l.length ≤ 4611686018427387904) : ∀ n (i : Nat) (x : Int), l.length - i < n → i ≤ l.length → 0 ≤ x → x ≤ i →
    R (x + ((l.drop i).countP isEdge : Nat)) → G31_0 R n x l l.length i := by
  intro n
  induction n with
  | zero => intro i x h; omega
  | succ n ih =>
    intro i x hn hi hx hxi hR
    have hw : ∀ y : Int, 0 ≤ y → y ≤ i → IntKind.i64.wrap (y + 1) = y + 1 := fun y h1 h2 => wrap_in (by omega) (by omega)
    refine brP_intro (fun h => ?_) (fun h => ?_)
    · simp at h
      have hc := getE_cons k74 l i (by omega)
      rw [hc] at hR
      refine ⟨⟨by omega, by omega⟩, ?_⟩
      rw [hw i (by omega) (by omega), hw x hx hxi]
      refine brP_intro (fun h1 => ?_) (fun h1 => ?_) <;> simp [h1] at hR
      · exact ih (i + 1) (x + 1) (by omega) (by omega) (by omega) (by omega) (by rw [Int.add_assoc, Int.add_comm 1]; exact hR)
      · exact ih (i + 1) x (by omega) (by omega) hx (by omega) hR
    · simp at h
      rw [show i = l.length by omega] at hR
      simpa using hR
def F31 (r : k45.ty) (Q : QT) : Prop := r.2.1.length ≤ 4611686018427387904 ∧ Q [.one (.int .i64 (r.2.1.countP isEdge : Nat))] []
def sp31 : PT := S1 k45 F31
theorem spec31 : SpecOk Try.prog 31 sp31 := S1.ok tt_ok mixed env31 Try.func31 fun r Q h => ok31 Q r
  ⟨_, loop31 r.2.1 _ h.1 (r.2.1.length + 1) 0 0 (by omega) (by omega) (by omega) (by omega) (by simpa [t31c0x0] using h.2)⟩
/-- slices.Equal -/
abbrev ksi : K := .slice 3 (.int .i64)
def F14 (x y : List Bool) (Q : QT) : Prop := x.length ≤ 4611686018427387904 ∧ Q [.one (.bool (decide (x = y)))] []
def sp14 : PT := S2 kbs kbs F14
-- f14 "slices.Equal[[]bool,bool]" ['25', '25'] -> ['4']
def A14 : Ann := [(0, [0, 1, 12, 13], [], [4])]
def E14 : Env := []
def I14 (p0 : ((.slice 4 .bool) : K).ty) (p1 : ((.slice 4 .bool) : K).ty) : List V1 := [nfK (.slice 4 .bool) p0, nfK (.slice 4 .bool) p1]
noncomputable def L14_0 : Code := Code.a (Code.a (Code.b (Code.a (Code.b (Code.b (Func.code Try.f14))))))
def S14_0 (l0 : List (K.ty K.bool)) (l1 : List (K.ty K.bool)) (x12 : Int) (x13 : Int) : St := sp (26 : Nat) [((0 : Nat), V.v (V1.one (Lf.sl (4 : TypeId) K.bool l0))), ((1 : Nat), V.v (V1.one (Lf.sl (4 : TypeId) K.bool l1))), ((12 : Nat), V.v (V1.one (Lf.int IntKind.i64 x12))), ((13 : Nat), V.v (V1.one (Lf.int IntKind.i64 x13)))] []
def X14_0_0 (b4 : Bool) : St := sp (26 : Nat) [((4 : Nat), V.v (V1.one (Lf.bool b4)))] []
def X14_0_1 : St := sp (26 : Nat) [] []
def t14_0 (again : List (K.ty K.bool) → List (K.ty K.bool) → Int → Int → Prop) (R0 : Bool → Prop) (R1 : Prop) (l0 : List (K.ty K.bool)) (l1 : List (K.ty K.bool)) (x12 : Int) (x13 : Int) : Prop :=
  brP (decide (x13 < x12)) (bound x13 (List.length l0) ∧ bound x13 (List.length l1) ∧ brP (getE K.bool l0 x13 != getE K.bool l1 x13) (R0 false) (again l0 l1 x12 (IntKind.wrap IntKind.i64 (x13 + (1 : Int))))) R1
theorem t14_0_mono {again : List (K.ty K.bool) → List (K.ty K.bool) → Int → Int → Prop} {R0 : Bool → Prop} {R1 : Prop} {again' : List (K.ty K.bool) → List (K.ty K.bool) → Int → Int → Prop} {R0' : Bool → Prop} {R1' : Prop} (ha : ∀ l0 l1 x12 x13, again l0 l1 x12 x13 → again' l0 l1 x12 x13) (hr0 : ∀ b4, R0 b4 → R0' b4) (hr1 :  R1 → R1') (l0 : List (K.ty K.bool)) (l1 : List (K.ty K.bool)) (x12 : Int) (x13 : Int) :
    t14_0 again R0 R1 l0 l1 x12 x13 → t14_0 again' R0' R1' l0 l1 x12 x13 :=
  brM (andM (id) (andM (id) (brM (hr0 _) (ha _ _ _ _)))) (hr1)
theorem t14_0_eq (n : Nat) (Q : Ex → St → Prop) (l0 : List (K.ty K.bool)) (l1 : List (K.ty K.bool)) (x12 : Int) (x13 : Int) :
    t14_0 (fun l0 l1 x12 x13 => loopP (awp tt E14 A14 L14_0 0) ([(0 : Nat), (1 : Nat), (12 : Nat), (13 : Nat)], [], [(4 : Nat)]) n (S14_0 l0 l1 x12 x13) Q) (fun b4 => Q (Ex.ret) (X14_0_0 b4)) ( Q (Ex.exit (nat_lit 0)) (X14_0_1)) l0 l1 x12 x13 = (loopP (awp tt E14 A14 L14_0 0) ([(0 : Nat), (1 : Nat), (12 : Nat), (13 : Nat)], [], [(4 : Nat)]) (n + 1) (S14_0 l0 l1 x12 x13) Q) := by kernel_rfl
def G14_0 (R0 : Bool → Prop) (R1 : Prop) : Nat → List (K.ty K.bool) → List (K.ty K.bool) → Int → Int → Prop
  | 0, _, _, _, _ => False
  | n + 1, l0, l1, x12, x13 => t14_0 (G14_0 R0 R1 n) R0 R1 l0 l1 x12 x13
theorem T14_0 {R0 : Bool → Prop} {R1 : Prop} (Q : Ex → St → Prop) (hr0 : ∀ b4, R0 b4 → Of (Q (Ex.ret) (X14_0_0 b4))) (hr1 :  R1 → Of (Q (Ex.exit (nat_lit 0)) (X14_0_1))) : ∀ (n : Nat) (l0 : List (K.ty K.bool)) (l1 : List (K.ty K.bool)) (x12 : Int) (x13 : Int), G14_0 R0 R1 n l0 l1 x12 x13 → Of (loopP (awp tt E14 A14 L14_0 0) ([(0 : Nat), (1 : Nat), (12 : Nat), (13 : Nat)], [], [(4 : Nat)]) n (S14_0 l0 l1 x12 x13) Q) := by
  intro n
  induction n with
  | zero => intro l0 l1 x12 x13 h; exact h.elim
  | succ n ih =>
    intro l0 l1 x12 x13 h
    exact kcO (t14_0_eq n Q l0 l1 x12 x13) (t14_0_mono (fun _ _ _ _ h => (ih _ _ _ _ h).out) (fun _ h => (hr0 _ h).out) (fun h => (hr1 h).out) l0 l1 x12 x13 h)
def t14 (Q : List V1 → List Ob → Prop) (lp0 : K.ty (K.slice (4 : TypeId) K.bool) → K.ty (K.slice (4 : TypeId) K.bool) → Prop) (p0 : K.ty (K.slice (4 : TypeId) K.bool)) (p1 : K.ty (K.slice (4 : TypeId) K.bool)) : Prop :=
  brP ((↑(List.length p0) : Int) != (↑(List.length p1) : Int)) (Q [V1.one (Lf.bool false)] []) (lp0 p0 p1)
theorem t14_mono {Q : List V1 → List Ob → Prop} {Q' : List V1 → List Ob → Prop} {lp0 : K.ty (K.slice (4 : TypeId) K.bool) → K.ty (K.slice (4 : TypeId) K.bool) → Prop} {lp0' : K.ty (K.slice (4 : TypeId) K.bool) → K.ty (K.slice (4 : TypeId) K.bool) → Prop} (hq : ∀ r h, Q r h → Q' r h) (hlp0 : ∀ p0 p1, lp0 p0 p1 → lp0' p0 p1) (p0 : K.ty (K.slice (4 : TypeId) K.bool)) (p1 : K.ty (K.slice (4 : TypeId) K.bool)) :
    t14 Q lp0 p0 p1 → t14 Q' lp0' p0 p1 :=
  brM (hq _ _) (hlp0 _ _)
theorem t14_eq (Q : List V1 → List Ob → Prop) (p0 : K.ty (K.slice (4 : TypeId) K.bool)) (p1 : K.ty (K.slice (4 : TypeId) K.bool)) :
    t14 Q (fun p0 p1 => ∃ m, loopP (awp tt E14 A14 L14_0 0) ([(0 : Nat), (1 : Nat), (12 : Nat), (13 : Nat)], [], [(4 : Nat)]) m (S14_0 (p0) (p1) ((↑(List.length p0) : Int)) ((0 : Int))) (blkC (0 : Nat) (seqC (awp tt E14 A14 (Code.b (Code.b (Code.b (Func.code Try.f14)))) (0 : Nat)) (topC tt Try.f14 0 Q)))) p0 p1 = (afun tt E14 A14 Try.f14 (I14 p0 p1) [] Q) := by kernel_rfl
def t14c0x1 (Q : List V1 → List Ob → Prop) (p0 : K.ty (K.slice (4 : TypeId) K.bool)) (p1 : K.ty (K.slice (4 : TypeId) K.bool)) : Prop :=
  Q [V1.one (Lf.bool true)] []
theorem t14c0x1_mono {Q : List V1 → List Ob → Prop} {Q' : List V1 → List Ob → Prop} (hq : ∀ r h, Q r h → Q' r h) (p0 : K.ty (K.slice (4 : TypeId) K.bool)) (p1 : K.ty (K.slice (4 : TypeId) K.bool)) :
    t14c0x1 Q p0 p1 → t14c0x1 Q' p0 p1 :=
  hq _ _
theorem t14c0x1_eq (Q : List V1 → List Ob → Prop) (p0 : K.ty (K.slice (4 : TypeId) K.bool)) (p1 : K.ty (K.slice (4 : TypeId) K.bool)) :
    t14c0x1 Q p0 p1 = ((blkC (0 : Nat) (seqC (awp tt E14 A14 (Code.b (Code.b (Code.b (Func.code Try.f14)))) (0 : Nat)) (topC tt Try.f14 0 Q))) (Ex.exit (nat_lit 0)) (X14_0_1)) := by kernel_rfl
def t14c0x0 (Q : List V1 → List Ob → Prop) (p0 : K.ty (K.slice (4 : TypeId) K.bool)) (p1 : K.ty (K.slice (4 : TypeId) K.bool)) (b4e2 : Bool) : Prop :=
  Q [V1.one (Lf.bool b4e2)] []
theorem t14c0x0_mono {Q : List V1 → List Ob → Prop} {Q' : List V1 → List Ob → Prop} (hq : ∀ r h, Q r h → Q' r h) (p0 : K.ty (K.slice (4 : TypeId) K.bool)) (p1 : K.ty (K.slice (4 : TypeId) K.bool)) (b4e2 : Bool) :
    t14c0x0 Q p0 p1 b4e2 → t14c0x0 Q' p0 p1 b4e2 :=
  hq _ _
theorem t14c0x0_eq (Q : List V1 → List Ob → Prop) (p0 : K.ty (K.slice (4 : TypeId) K.bool)) (p1 : K.ty (K.slice (4 : TypeId) K.bool)) (b4e2 : Bool) :
    t14c0x0 Q p0 p1 b4e2 = ((blkC (0 : Nat) (seqC (awp tt E14 A14 (Code.b (Code.b (Code.b (Func.code Try.f14)))) (0 : Nat)) (topC tt Try.f14 0 Q))) (Ex.ret) (X14_0_0 b4e2)) := by kernel_rfl
def H14 (Q : List V1 → List Ob → Prop) (p0 : K.ty (K.slice (4 : TypeId) K.bool)) (p1 : K.ty (K.slice (4 : TypeId) K.bool)) : Prop := t14 Q (fun p0 p1 => ∃ m, G14_0 (fun b4e2 => t14c0x0 Q p0 p1 b4e2) ( t14c0x1 Q p0 p1) m (p0) (p1) ((↑(List.length p0) : Int)) ((0 : Int))) p0 p1
theorem ok14 (Q : List V1 → List Ob → Prop) (p0 : K.ty (K.slice (4 : TypeId) K.bool)) (p1 : K.ty (K.slice (4 : TypeId) K.bool)) (h : H14 Q p0 p1) : Of (afun tt E14 A14 Try.f14 (I14 p0 p1) [] Q) :=
  kcO (t14_eq Q p0 p1) (t14_mono (fun _ _ h => h) (fun p0 p1 ⟨m, h⟩ => ⟨m, (T14_0 _ (fun b4e2 h => kcO (t14c0x0_eq _ _ _ _) (t14c0x0_mono (fun _ _ h => h) _ _ _ h)) (fun h => kcO (t14c0x1_eq _ _ _) (t14c0x1_mono (fun _ _ h => h) _ _ h)) m _ _ _ _ h).out⟩) p0 p1 h)
theorem env14 : EnvOk Try.prog E14 := .nil
theorem loop14 (x y : List Bool) (R0 : Bool → Prop) (R1 : Prop) (hl : x.length = y.length) (hm : x.length ≤ 4611686018427387904) (h0 : x ≠ y → R0 false) (h1 : x = y → R1) :
    ∀ n (i : Nat), x.length - i < n → i ≤ x.length → x.take i = y.take i → G14_0 R0 R1 n x y x.length i := by
  intro n
  induction n with
  | zero => intro i h; omega
  | succ n ih =>
    intro i hn hi ht
    refine brP_intro (fun h => ?_) (fun h => ?_)
    · simp at h
      refine ⟨⟨by omega, by omega⟩, ⟨by omega, by omega⟩, ?_⟩
      have e1 : getE .bool x i = x[i] := by simp [getE, List.getD, h]
      have e2 : getE .bool y i = y[i]'(by omega) := by simp [getE, List.getD, show i < y.length by omega]
      refine brP_intro (fun h2 => ?_) (fun h2 => ?_)
      · refine h0 fun e => ?_
        subst e
        simp at h2
      · rw [wrap_in (by omega) (by omega)]
        refine ih (i + 1) (by omega) (by omega) ?_
        rw [e1, e2] at h2
        simp at h2
        rw [List.take_succ_eq_append_getElem h, List.take_succ_eq_append_getElem (show i < y.length by omega), ht, h2]
    · simp at h
      refine h1 ?_
      rw [List.take_of_length_le (by omega), List.take_of_length_le (by omega)] at ht
      exact ht
theorem spec14 : SpecOk Try.prog 14 sp14 := S2.ok tt_ok mixed env14 Try.func14 fun x y Q h => ok14 Q x y <| by
  obtain ⟨hm, hq⟩ := h
  refine brP_intro (fun c => ?_) (fun c => ?_)
  · have : x ≠ y := by rintro rfl; simp at c
    simpa [this] using hq
  · simp at c
    refine ⟨x.length + 1, loop14 x y _ _ (by omega) hm (fun h => ?_) (fun h => ?_) _ 0 (by omega) (by omega) rfl⟩
    · simpa [h, t14c0x0, t14c0x1] using hq
    · simpa [h, t14c0x0, t14c0x1] using hq
end Go.AM
namespace Go.AM
open Go.Proofs
def F15 (x y : List Int) (Q : QT) : Prop := x.length ≤ 4611686018427387904 ∧ Q [.one (.bool (decide (x = y)))] []
def sp15 : PT := S2 ksi ksi F15
-- f15 "slices.Equal[[]int,int]" ['40', '40'] -> ['4']
def A15 : Ann := [(0, [0, 1, 12, 13], [], [4])]
def E15 : Env := []
def I15 (p0 : ((.slice 3 (.int .i64)) : K).ty) (p1 : ((.slice 3 (.int .i64)) : K).ty) : List V1 := [nfK (.slice 3 (.int .i64)) p0, nfK (.slice 3 (.int .i64)) p1]
noncomputable def L15_0 : Code := Code.a (Code.a (Code.b (Code.a (Code.b (Code.b (Func.code Try.f15))))))
def S15_0 (l0 : List (K.ty (K.int IntKind.i64))) (l1 : List (K.ty (K.int IntKind.i64))) (x12 : Int) (x13 : Int) : St := sp (26 : Nat) [((0 : Nat), V.v (V1.one (Lf.sl (3 : TypeId) (K.int IntKind.i64) l0))), ((1 : Nat), V.v (V1.one (Lf.sl (3 : TypeId) (K.int IntKind.i64) l1))), ((12 : Nat), V.v (V1.one (Lf.int IntKind.i64 x12))), ((13 : Nat), V.v (V1.one (Lf.int IntKind.i64 x13)))] []
def X15_0_0 (b4 : Bool) : St := sp (26 : Nat) [((4 : Nat), V.v (V1.one (Lf.bool b4)))] []
def X15_0_1 : St := sp (26 : Nat) [] []
def t15_0 (again : List (K.ty (K.int IntKind.i64)) → List (K.ty (K.int IntKind.i64)) → Int → Int → Prop) (R0 : Bool → Prop) (R1 : Prop) (l0 : List (K.ty (K.int IntKind.i64))) (l1 : List (K.ty (K.int IntKind.i64))) (x12 : Int) (x13 : Int) : Prop :=
  brP (decide (x13 < x12)) (bound x13 (List.length l0) ∧ bound x13 (List.length l1) ∧ brP (getE (K.int IntKind.i64) l0 x13 != getE (K.int IntKind.i64) l1 x13) (R0 false) (again l0 l1 x12 (IntKind.wrap IntKind.i64 (x13 + (1 : Int))))) R1
theorem t15_0_mono {again : List (K.ty (K.int IntKind.i64)) → List (K.ty (K.int IntKind.i64)) → Int → Int → Prop} {R0 : Bool → Prop} {R1 : Prop} {again' : List (K.ty (K.int IntKind.i64)) → List (K.ty (K.int IntKind.i64)) → Int → Int → Prop} {R0' : Bool → Prop} {R1' : Prop} (ha : ∀ l0 l1 x12 x13, again l0 l1 x12 x13 → again' l0 l1 x12 x13) (hr0 : ∀ b4, R0 b4 → R0' b4) (hr1 :  R1 → R1') (l0 : List (K.ty (K.int IntKind.i64))) (l1 : List (K.ty (K.int IntKind.i64))) (x12 : Int) (x13 : Int) :
    t15_0 again R0 R1 l0 l1 x12 x13 → t15_0 again' R0' R1' l0 l1 x12 x13 :=
  brM (andM (id) (andM (id) (brM (hr0 _) (ha _ _ _ _)))) (hr1)
theorem t15_0_eq (n : Nat) (Q : Ex → St → Prop) (l0 : List (K.ty (K.int IntKind.i64))) (l1 : List (K.ty (K.int IntKind.i64))) (x12 : Int) (x13 : Int) :
    t15_0 (fun l0 l1 x12 x13 => loopP (awp tt E15 A15 L15_0 0) ([(0 : Nat), (1 : Nat), (12 : Nat), (13 : Nat)], [], [(4 : Nat)]) n (S15_0 l0 l1 x12 x13) Q) (fun b4 => Q (Ex.ret) (X15_0_0 b4)) ( Q (Ex.exit (nat_lit 0)) (X15_0_1)) l0 l1 x12 x13 = (loopP (awp tt E15 A15 L15_0 0) ([(0 : Nat), (1 : Nat), (12 : Nat), (13 : Nat)], [], [(4 : Nat)]) (n + 1) (S15_0 l0 l1 x12 x13) Q) := by kernel_rfl
def G15_0 (R0 : Bool → Prop) (R1 : Prop) : Nat → List (K.ty (K.int IntKind.i64)) → List (K.ty (K.int IntKind.i64)) → Int → Int → Prop
  | 0, _, _, _, _ => False
  | n + 1, l0, l1, x12, x13 => t15_0 (G15_0 R0 R1 n) R0 R1 l0 l1 x12 x13
theorem T15_0 {R0 : Bool → Prop} {R1 : Prop} (Q : Ex → St → Prop) (hr0 : ∀ b4, R0 b4 → Of (Q (Ex.ret) (X15_0_0 b4))) (hr1 :  R1 → Of (Q (Ex.exit (nat_lit 0)) (X15_0_1))) : ∀ (n : Nat) (l0 : List (K.ty (K.int IntKind.i64))) (l1 : List (K.ty (K.int IntKind.i64))) (x12 : Int) (x13 : Int), G15_0 R0 R1 n l0 l1 x12 x13 → Of (loopP (awp tt E15 A15 L15_0 0) ([(0 : Nat), (1 : Nat), (12 : Nat), (13 : Nat)], [], [(4 : Nat)]) n (S15_0 l0 l1 x12 x13) Q) := by
  intro n
  induction n with
  | zero => intro l0 l1 x12 x13 h; exact h.elim
  | succ n ih =>
    intro l0 l1 x12 x13 h
    exact kcO (t15_0_eq n Q l0 l1 x12 x13) (t15_0_mono (fun _ _ _ _ h => (ih _ _ _ _ h).out) (fun _ h => (hr0 _ h).out) (fun h => (hr1 h).out) l0 l1 x12 x13 h)
def t15 (Q : List V1 → List Ob → Prop) (lp0 : K.ty (K.slice (3 : TypeId) (K.int IntKind.i64)) → K.ty (K.slice (3 : TypeId) (K.int IntKind.i64)) → Prop) (p0 : K.ty (K.slice (3 : TypeId) (K.int IntKind.i64))) (p1 : K.ty (K.slice (3 : TypeId) (K.int IntKind.i64))) : Prop :=
  brP ((↑(List.length p0) : Int) != (↑(List.length p1) : Int)) (Q [V1.one (Lf.bool false)] []) (lp0 p0 p1)
theorem t15_mono {Q : List V1 → List Ob → Prop} {Q' : List V1 → List Ob → Prop} {lp0 : K.ty (K.slice (3 : TypeId) (K.int IntKind.i64)) → K.ty (K.slice (3 : TypeId) (K.int IntKind.i64)) → Prop} {lp0' : K.ty (K.slice (3 : TypeId) (K.int IntKind.i64)) → K.ty (K.slice (3 : TypeId) (K.int IntKind.i64)) → Prop} (hq : ∀ r h, Q r h → Q' r h) (hlp0 : ∀ p0 p1, lp0 p0 p1 → lp0' p0 p1) (p0 : K.ty (K.slice (3 : TypeId) (K.int IntKind.i64))) (p1 : K.ty (K.slice (3 : TypeId) (K.int IntKind.i64))) :
    t15 Q lp0 p0 p1 → t15 Q' lp0' p0 p1 :=
  brM (hq _ _) (hlp0 _ _)
theorem t15_eq (Q : List V1 → List Ob → Prop) (p0 : K.ty (K.slice (3 : TypeId) (K.int IntKind.i64))) (p1 : K.ty (K.slice (3 : TypeId) (K.int IntKind.i64))) :
    t15 Q (fun p0 p1 => ∃ m, loopP (awp tt E15 A15 L15_0 0) ([(0 : Nat), (1 : Nat), (12 : Nat), (13 : Nat)], [], [(4 : Nat)]) m (S15_0 (p0) (p1) ((↑(List.length p0) : Int)) ((0 : Int))) (blkC (0 : Nat) (seqC (awp tt E15 A15 (Code.b (Code.b (Code.b (Func.code Try.f15)))) (0 : Nat)) (topC tt Try.f15 0 Q)))) p0 p1 = (afun tt E15 A15 Try.f15 (I15 p0 p1) [] Q) := by kernel_rfl
def t15c0x1 (Q : List V1 → List Ob → Prop) (p0 : K.ty (K.slice (3 : TypeId) (K.int IntKind.i64))) (p1 : K.ty (K.slice (3 : TypeId) (K.int IntKind.i64))) : Prop :=
  Q [V1.one (Lf.bool true)] []
theorem t15c0x1_mono {Q : List V1 → List Ob → Prop} {Q' : List V1 → List Ob → Prop} (hq : ∀ r h, Q r h → Q' r h) (p0 : K.ty (K.slice (3 : TypeId) (K.int IntKind.i64))) (p1 : K.ty (K.slice (3 : TypeId) (K.int IntKind.i64))) :
    t15c0x1 Q p0 p1 → t15c0x1 Q' p0 p1 :=
  hq _ _
theorem t15c0x1_eq (Q : List V1 → List Ob → Prop) (p0 : K.ty (K.slice (3 : TypeId) (K.int IntKind.i64))) (p1 : K.ty (K.slice (3 : TypeId) (K.int IntKind.i64))) :
    t15c0x1 Q p0 p1 = ((blkC (0 : Nat) (seqC (awp tt E15 A15 (Code.b (Code.b (Code.b (Func.code Try.f15)))) (0 : Nat)) (topC tt Try.f15 0 Q))) (Ex.exit (nat_lit 0)) (X15_0_1)) := by kernel_rfl
def t15c0x0 (Q : List V1 → List Ob → Prop) (p0 : K.ty (K.slice (3 : TypeId) (K.int IntKind.i64))) (p1 : K.ty (K.slice (3 : TypeId) (K.int IntKind.i64))) (b4e2 : Bool) : Prop :=
  Q [V1.one (Lf.bool b4e2)] []
theorem t15c0x0_mono {Q : List V1 → List Ob → Prop} {Q' : List V1 → List Ob → Prop} (hq : ∀ r h, Q r h → Q' r h) (p0 : K.ty (K.slice (3 : TypeId) (K.int IntKind.i64))) (p1 : K.ty (K.slice (3 : TypeId) (K.int IntKind.i64))) (b4e2 : Bool) :
    t15c0x0 Q p0 p1 b4e2 → t15c0x0 Q' p0 p1 b4e2 :=
  hq _ _
theorem t15c0x0_eq (Q : List V1 → List Ob → Prop) (p0 : K.ty (K.slice (3 : TypeId) (K.int IntKind.i64))) (p1 : K.ty (K.slice (3 : TypeId) (K.int IntKind.i64))) (b4e2 : Bool) :
    t15c0x0 Q p0 p1 b4e2 = ((blkC (0 : Nat) (seqC (awp tt E15 A15 (Code.b (Code.b (Code.b (Func.code Try.f15)))) (0 : Nat)) (topC tt Try.f15 0 Q))) (Ex.ret) (X15_0_0 b4e2)) := by kernel_rfl
def H15 (Q : List V1 → List Ob → Prop) (p0 : K.ty (K.slice (3 : TypeId) (K.int IntKind.i64))) (p1 : K.ty (K.slice (3 : TypeId) (K.int IntKind.i64))) : Prop := t15 Q (fun p0 p1 => ∃ m, G15_0 (fun b4e2 => t15c0x0 Q p0 p1 b4e2) ( t15c0x1 Q p0 p1) m (p0) (p1) ((↑(List.length p0) : Int)) ((0 : Int))) p0 p1
theorem ok15 (Q : List V1 → List Ob → Prop) (p0 : K.ty (K.slice (3 : TypeId) (K.int IntKind.i64))) (p1 : K.ty (K.slice (3 : TypeId) (K.int IntKind.i64))) (h : H15 Q p0 p1) : Of (afun tt E15 A15 Try.f15 (I15 p0 p1) [] Q) :=
  kcO (t15_eq Q p0 p1) (t15_mono (fun _ _ h => h) (fun p0 p1 ⟨m, h⟩ => ⟨m, (T15_0 _ (fun b4e2 h => kcO (t15c0x0_eq _ _ _ _) (t15c0x0_mono (fun _ _ h => h) _ _ _ h)) (fun h => kcO (t15c0x1_eq _ _ _) (t15c0x1_mono (fun _ _ h => h) _ _ h)) m _ _ _ _ h).out⟩) p0 p1 h)
theorem env15 : EnvOk Try.prog E15 := .nil
theorem loop15 (x y : List Int) (R0 : Bool → Prop) (R1 : Prop) (hl : x.length = y.length) (hm : x.length ≤ 4611686018427387904) (h0 : x ≠ y → R0 false) (h1 : x = y → R1) :
    ∀ n (i : Nat), x.length - i < n → i ≤ x.length → x.take i = y.take i → G15_0 R0 R1 n x y x.length i := by
  intro n
  induction n with
  | zero => intro i h; omega
  | succ n ih =>
    intro i hn hi ht
    refine brP_intro (fun h => ?_) (fun h => ?_)
    · simp at h
      refine ⟨⟨by omega, by omega⟩, ⟨by omega, by omega⟩, ?_⟩
      have e1 : getE (.int .i64) x i = x[i] := by simp [getE, List.getD, h]
      have e2 : getE (.int .i64) y i = y[i]'(by omega) := by simp [getE, List.getD, show i < y.length by omega]
      refine brP_intro (fun h2 => ?_) (fun h2 => ?_)
      · refine h0 fun e => ?_
        subst e
        simp at h2
      · rw [wrap_in (by omega) (by omega)]
        refine ih (i + 1) (by omega) (by omega) ?_
        rw [e1, e2] at h2
        simp at h2
        rw [List.take_succ_eq_append_getElem h, List.take_succ_eq_append_getElem (show i < y.length by omega), ht, h2]
    · simp at h
      refine h1 ?_
      rw [List.take_of_length_le (by omega), List.take_of_length_le (by omega)] at ht
      exact ht
theorem spec15 : SpecOk Try.prog 15 sp15 := S2.ok tt_ok mixed env15 Try.func15 fun x y Q h => ok15 Q x y <| by
  obtain ⟨hm, hq⟩ := h
  refine brP_intro (fun c => ?_) (fun c => ?_)
  · have : x ≠ y := by rintro rfl; simp at c
    simpa [this] using hq
  · simp at c
    refine ⟨x.length + 1, loop15 x y _ _ (by omega) hm (fun h => ?_) (fun h => ?_) _ 0 (by omega) (by omega) rfl⟩
    · simpa [h, t15c0x0, t15c0x1] using hq
    · simpa [h, t15c0x0, t15c0x1] using hq
def sp30 : PT := S2 kbs kbs F14
-- f30 "busbar/busbarref02.Equal" ['25', '25'] -> ['4']
def A30 : Ann := [(0, [0, 1, 5], [], [4])]
def E30 : Env := []
def I30 (p0 : ((.slice 4 .bool) : K).ty) (p1 : ((.slice 4 .bool) : K).ty) : List V1 := [nfK (.slice 4 .bool) p0, nfK (.slice 4 .bool) p1]
noncomputable def L30_0 : Code := Code.a (Code.a (Code.b (Code.a (Code.b (Code.b (Func.code Try.f30))))))
def S30_0 (l0 : List (K.ty K.bool)) (l1 : List (K.ty K.bool)) (x5 : Int) : St := sp (26 : Nat) [((0 : Nat), V.v (V1.one (Lf.sl (4 : TypeId) K.bool l0))), ((1 : Nat), V.v (V1.one (Lf.sl (4 : TypeId) K.bool l1))), ((5 : Nat), V.v (V1.one (Lf.int IntKind.i64 x5)))] []
def X30_0_0 (b4 : Bool) : St := sp (26 : Nat) [((4 : Nat), V.v (V1.one (Lf.bool b4)))] []
def X30_0_1 : St := sp (26 : Nat) [] []
def t30_0 (again : List (K.ty K.bool) → List (K.ty K.bool) → Int → Prop) (R0 : Bool → Prop) (R1 : Prop) (l0 : List (K.ty K.bool)) (l1 : List (K.ty K.bool)) (x5 : Int) : Prop :=
  brP (decide (x5 < (↑(List.length l0) : Int))) (bound x5 (List.length l0) ∧ bound x5 (List.length l1) ∧ brP (getE K.bool l0 x5 != getE K.bool l1 x5) (R0 false) (again l0 l1 (IntKind.wrap IntKind.i64 (x5 + (1 : Int))))) R1
theorem t30_0_mono {again : List (K.ty K.bool) → List (K.ty K.bool) → Int → Prop} {R0 : Bool → Prop} {R1 : Prop} {again' : List (K.ty K.bool) → List (K.ty K.bool) → Int → Prop} {R0' : Bool → Prop} {R1' : Prop} (ha : ∀ l0 l1 x5, again l0 l1 x5 → again' l0 l1 x5) (hr0 : ∀ b4, R0 b4 → R0' b4) (hr1 :  R1 → R1') (l0 : List (K.ty K.bool)) (l1 : List (K.ty K.bool)) (x5 : Int) :
    t30_0 again R0 R1 l0 l1 x5 → t30_0 again' R0' R1' l0 l1 x5 :=
  brM (andM (id) (andM (id) (brM (hr0 _) (ha _ _ _)))) (hr1)
theorem t30_0_eq (n : Nat) (Q : Ex → St → Prop) (l0 : List (K.ty K.bool)) (l1 : List (K.ty K.bool)) (x5 : Int) :
    t30_0 (fun l0 l1 x5 => loopP (awp tt E30 A30 L30_0 0) ([(0 : Nat), (1 : Nat), (5 : Nat)], [], [(4 : Nat)]) n (S30_0 l0 l1 x5) Q) (fun b4 => Q (Ex.ret) (X30_0_0 b4)) ( Q (Ex.exit (nat_lit 0)) (X30_0_1)) l0 l1 x5 = (loopP (awp tt E30 A30 L30_0 0) ([(0 : Nat), (1 : Nat), (5 : Nat)], [], [(4 : Nat)]) (n + 1) (S30_0 l0 l1 x5) Q) := by kernel_rfl
def G30_0 (R0 : Bool → Prop) (R1 : Prop) : Nat → List (K.ty K.bool) → List (K.ty K.bool) → Int → Prop
  | 0, _, _, _ => False
  | n + 1, l0, l1, x5 => t30_0 (G30_0 R0 R1 n) R0 R1 l0 l1 x5
theorem T30_0 {R0 : Bool → Prop} {R1 : Prop} (Q : Ex → St → Prop) (hr0 : ∀ b4, R0 b4 → Of (Q (Ex.ret) (X30_0_0 b4))) (hr1 :  R1 → Of (Q (Ex.exit (nat_lit 0)) (X30_0_1))) : ∀ (n : Nat) (l0 : List (K.ty K.bool)) (l1 : List (K.ty K.bool)) (x5 : Int), G30_0 R0 R1 n l0 l1 x5 → Of (loopP (awp tt E30 A30 L30_0 0) ([(0 : Nat), (1 : Nat), (5 : Nat)], [], [(4 : Nat)]) n (S30_0 l0 l1 x5) Q) := by
  intro n
  induction n with
  | zero => intro l0 l1 x5 h; exact h.elim
  | succ n ih =>
    intro l0 l1 x5 h
    exact kcO (t30_0_eq n Q l0 l1 x5) (t30_0_mono (fun _ _ _ h => (ih _ _ _ h).out) (fun _ h => (hr0 _ h).out) (fun h => (hr1 h).out) l0 l1 x5 h)
def t30 (Q : List V1 → List Ob → Prop) (lp0 : K.ty (K.slice (4 : TypeId) K.bool) → K.ty (K.slice (4 : TypeId) K.bool) → Prop) (p0 : K.ty (K.slice (4 : TypeId) K.bool)) (p1 : K.ty (K.slice (4 : TypeId) K.bool)) : Prop :=
  brP ((↑(List.length p0) : Int) != (↑(List.length p1) : Int)) (Q [V1.one (Lf.bool false)] []) (lp0 p0 p1)
theorem t30_mono {Q : List V1 → List Ob → Prop} {Q' : List V1 → List Ob → Prop} {lp0 : K.ty (K.slice (4 : TypeId) K.bool) → K.ty (K.slice (4 : TypeId) K.bool) → Prop} {lp0' : K.ty (K.slice (4 : TypeId) K.bool) → K.ty (K.slice (4 : TypeId) K.bool) → Prop} (hq : ∀ r h, Q r h → Q' r h) (hlp0 : ∀ p0 p1, lp0 p0 p1 → lp0' p0 p1) (p0 : K.ty (K.slice (4 : TypeId) K.bool)) (p1 : K.ty (K.slice (4 : TypeId) K.bool)) :
    t30 Q lp0 p0 p1 → t30 Q' lp0' p0 p1 :=
  brM (hq _ _) (hlp0 _ _)
theorem t30_eq (Q : List V1 → List Ob → Prop) (p0 : K.ty (K.slice (4 : TypeId) K.bool)) (p1 : K.ty (K.slice (4 : TypeId) K.bool)) :
    t30 Q (fun p0 p1 => ∃ m, loopP (awp tt E30 A30 L30_0 0) ([(0 : Nat), (1 : Nat), (5 : Nat)], [], [(4 : Nat)]) m (S30_0 (p0) (p1) ((0 : Int))) (blkC (0 : Nat) (seqC (awp tt E30 A30 (Code.b (Code.b (Code.b (Func.code Try.f30)))) (0 : Nat)) (topC tt Try.f30 0 Q)))) p0 p1 = (afun tt E30 A30 Try.f30 (I30 p0 p1) [] Q) := by kernel_rfl
def t30c0x1 (Q : List V1 → List Ob → Prop) (p0 : K.ty (K.slice (4 : TypeId) K.bool)) (p1 : K.ty (K.slice (4 : TypeId) K.bool)) : Prop :=
  Q [V1.one (Lf.bool true)] []
theorem t30c0x1_mono {Q : List V1 → List Ob → Prop} {Q' : List V1 → List Ob → Prop} (hq : ∀ r h, Q r h → Q' r h) (p0 : K.ty (K.slice (4 : TypeId) K.bool)) (p1 : K.ty (K.slice (4 : TypeId) K.bool)) :
    t30c0x1 Q p0 p1 → t30c0x1 Q' p0 p1 :=
  hq _ _
theorem t30c0x1_eq (Q : List V1 → List Ob → Prop) (p0 : K.ty (K.slice (4 : TypeId) K.bool)) (p1 : K.ty (K.slice (4 : TypeId) K.bool)) :
    t30c0x1 Q p0 p1 = ((blkC (0 : Nat) (seqC (awp tt E30 A30 (Code.b (Code.b (Code.b (Func.code Try.f30)))) (0 : Nat)) (topC tt Try.f30 0 Q))) (Ex.exit (nat_lit 0)) (X30_0_1)) := by kernel_rfl
def t30c0x0 (Q : List V1 → List Ob → Prop) (p0 : K.ty (K.slice (4 : TypeId) K.bool)) (p1 : K.ty (K.slice (4 : TypeId) K.bool)) (b4e2 : Bool) : Prop :=
  Q [V1.one (Lf.bool b4e2)] []
theorem t30c0x0_mono {Q : List V1 → List Ob → Prop} {Q' : List V1 → List Ob → Prop} (hq : ∀ r h, Q r h → Q' r h) (p0 : K.ty (K.slice (4 : TypeId) K.bool)) (p1 : K.ty (K.slice (4 : TypeId) K.bool)) (b4e2 : Bool) :
    t30c0x0 Q p0 p1 b4e2 → t30c0x0 Q' p0 p1 b4e2 :=
  hq _ _
theorem t30c0x0_eq (Q : List V1 → List Ob → Prop) (p0 : K.ty (K.slice (4 : TypeId) K.bool)) (p1 : K.ty (K.slice (4 : TypeId) K.bool)) (b4e2 : Bool) :
    t30c0x0 Q p0 p1 b4e2 = ((blkC (0 : Nat) (seqC (awp tt E30 A30 (Code.b (Code.b (Code.b (Func.code Try.f30)))) (0 : Nat)) (topC tt Try.f30 0 Q))) (Ex.ret) (X30_0_0 b4e2)) := by kernel_rfl
def H30 (Q : List V1 → List Ob → Prop) (p0 : K.ty (K.slice (4 : TypeId) K.bool)) (p1 : K.ty (K.slice (4 : TypeId) K.bool)) : Prop := t30 Q (fun p0 p1 => ∃ m, G30_0 (fun b4e2 => t30c0x0 Q p0 p1 b4e2) ( t30c0x1 Q p0 p1) m (p0) (p1) ((0 : Int))) p0 p1
theorem ok30 (Q : List V1 → List Ob → Prop) (p0 : K.ty (K.slice (4 : TypeId) K.bool)) (p1 : K.ty (K.slice (4 : TypeId) K.bool)) (h : H30 Q p0 p1) : Of (afun tt E30 A30 Try.f30 (I30 p0 p1) [] Q) :=
  kcO (t30_eq Q p0 p1) (t30_mono (fun _ _ h => h) (fun p0 p1 ⟨m, h⟩ => ⟨m, (T30_0 _ (fun b4e2 h => kcO (t30c0x0_eq _ _ _ _) (t30c0x0_mono (fun _ _ h => h) _ _ _ h)) (fun h => kcO (t30c0x1_eq _ _ _) (t30c0x1_mono (fun _ _ h => h) _ _ h)) m _ _ _ h).out⟩) p0 p1 h)
theorem env30 : EnvOk Try.prog E30 := .nil
theorem loop30 (x y : List Bool) (R0 : Bool → Prop) (R1 : Prop) (hl : x.length = y.length) (hm : x.length ≤ 4611686018427387904) (h0 : x ≠ y → R0 false) (h1 : x = y → R1) :
    ∀ n (i : Nat), x.length - i < n → i ≤ x.length → x.take i = y.take i → G30_0 R0 R1 n x y i := by
  intro n
  induction n with
  | zero => intro i h; omega
  | succ n ih =>
    intro i hn hi ht
    refine brP_intro (fun h => ?_) (fun h => ?_)
    · simp at h
      refine ⟨⟨by omega, by omega⟩, ⟨by omega, by omega⟩, ?_⟩
      have e1 : getE .bool x i = x[i] := by simp [getE, List.getD, h]
      have e2 : getE .bool y i = y[i]'(by omega) := by simp [getE, List.getD, show i < y.length by omega]
      refine brP_intro (fun h2 => ?_) (fun h2 => ?_)
      · refine h0 fun e => ?_
        subst e
        simp at h2
      · rw [wrap_in (by omega) (by omega)]
        refine ih (i + 1) (by omega) (by omega) ?_
        rw [e1, e2] at h2
        simp at h2
        rw [List.take_succ_eq_append_getElem h, List.take_succ_eq_append_getElem (show i < y.length by omega), ht, h2]
    · simp at h
      refine h1 ?_
      rw [List.take_of_length_le (by omega), List.take_of_length_le (by omega)] at ht
      exact ht
theorem spec30 : SpecOk Try.prog 30 sp30 := S2.ok tt_ok mixed env30 Try.func30 fun x y Q h => ok30 Q x y <| by
  obtain ⟨hm, hq⟩ := h
  refine brP_intro (fun c => ?_) (fun c => ?_)
  · have : x ≠ y := by rintro rfl; simp at c
    simpa [this] using hq
  · simp at c
    refine ⟨x.length + 1, loop30 x y _ _ (by omega) hm (fun h => ?_) (fun h => ?_) _ 0 (by omega) (by omega) rfl⟩
    · simpa [h, t30c0x0, t30c0x1] using hq
    · simpa [h, t30c0x0, t30c0x1] using hq
def F13 (x y : k26.ty) (Q : QT) : Prop := x.1.length ≤ 4611686018427387904 ∧ x.2.1.length ≤ 4611686018427387904 ∧ x.2.2.length ≤ 4611686018427387904 ∧ Q [.one (.bool (decide (x = y)))] []
def sp13 : PT := S2 k26 k26 F13
-- f13 "busbar/busbarref03.Equal" ['27', '27'] -> ['4']
def A13 : Ann := []
def E13 : Env := [(30, sp30)]
def I13 (p0 : (k26 : K).ty) (p1 : (k26 : K).ty) : List V1 := [nfK k26 p0, nfK k26 p1]
def t13 (Q : List V1 → List Ob → Prop) (p0 : K.ty k26) (p1 : K.ty k26) : Prop :=
  List.length p0.fst ≤ (4611686018427387904 : Nat) ∧ brP (decide (p0.fst = p1.fst)) (List.length p0.snd.fst ≤ (4611686018427387904 : Nat) ∧ brP (decide (p0.snd.fst = p1.snd.fst)) (List.length p0.snd.snd ≤ (4611686018427387904 : Nat) ∧ Q [V1.one (Lf.bool (decide (p0.snd.snd = p1.snd.snd)))] []) (Q [V1.one (Lf.bool false)] [])) (Q [V1.one (Lf.bool false)] [])
theorem t13_mono {Q : List V1 → List Ob → Prop} {Q' : List V1 → List Ob → Prop} (hq : ∀ r h, Q r h → Q' r h) (p0 : K.ty k26) (p1 : K.ty k26) :
    t13 Q p0 p1 → t13 Q' p0 p1 :=
  andM (id) (brM (andM (id) (brM (andM (id) (hq _ _)) (hq _ _))) (hq _ _))
theorem t13_eq (Q : List V1 → List Ob → Prop) (p0 : K.ty k26) (p1 : K.ty k26) :
    t13 Q p0 p1 = (afun tt E13 A13 Try.f13 (I13 p0 p1) [] Q) := by kernel_rfl
def H13 (Q : List V1 → List Ob → Prop) (p0 : K.ty k26) (p1 : K.ty k26) : Prop := t13 Q p0 p1
theorem ok13 (Q : List V1 → List Ob → Prop) (p0 : K.ty k26) (p1 : K.ty k26) (h : H13 Q p0 p1) : Of (afun tt E13 A13 Try.f13 (I13 p0 p1) [] Q) :=
  kcO (t13_eq Q p0 p1) (t13_mono (fun _ _ h => h) p0 p1 h)
theorem env13 : EnvOk Try.prog E13 := .cons spec30 (by kernel_rfl) <| .nil
theorem spec13 : SpecOk Try.prog 13 sp13 := S2.ok tt_ok mixed env13 Try.func13 fun x y Q h => ok13 Q x y <| by
  obtain ⟨h1, h2, h3, hq⟩ := h
  obtain ⟨a, b, c⟩ := x
  obtain ⟨a', b', c'⟩ := y
  refine ⟨h1, ?_⟩
  refine brP_intro (fun d => ?_) (fun d => ?_) <;> simp at d
  · refine ⟨h2, ?_⟩
    refine brP_intro (fun e => ?_) (fun e => ?_) <;> simp at e
    · refine ⟨h3, ?_⟩
      simpa [d, e] using hq
    · simpa [d, e] using hq
  · simpa [d] using hq
end Go.AM
namespace Go.AM
open Go.Proofs
abbrev orow (l : List Bool) : Ob := .row 4 .bool l
/-- slices.Clone -/
def F40 (l : List Bool) (Q : QT) : Prop := l.length ≤ 1000000000000 ∧ Q [.one (.own 0)] [orow l]
def sp40 : PT := S1 kbs F40
-- f40 "slices.Clone[[]bool,bool]" ['25'] -> ['25']
def A40 : Ann := []
def E40 : Env := []
def I40 (p0 : ((.slice 4 .bool) : K).ty) : List V1 := [nfK (.slice 4 .bool) p0]
def t40 (Q : List V1 → List Ob → Prop) (p0 : K.ty (K.slice (4 : TypeId) K.bool)) : Prop :=
  ∀ (b1 : Bool), (b1 = true → p0 = []) → brP b1 (Q [V1.one (Lf.own (0 : Nat))] [Ob.row (4 : TypeId) K.bool []]) (room tt (4 : TypeId) (List.length (List.replicate (0 : Nat) (K.dflt K.bool)) + List.length p0) ∧ Q [V1.one (Lf.own (0 : Nat))] [Ob.row (4 : TypeId) K.bool (List.replicate (0 : Nat) (K.dflt K.bool) ++ p0)])
theorem t40_mono {Q : List V1 → List Ob → Prop} {Q' : List V1 → List Ob → Prop} (hq : ∀ r h, Q r h → Q' r h) (p0 : K.ty (K.slice (4 : TypeId) K.bool)) :
    t40 Q p0 → t40 Q' p0 :=
  fun hh x => ap (hh x) (fun hh x => ap (hh x) (brM (hq _ _) (andM (id) (hq _ _))))
theorem t40_eq (Q : List V1 → List Ob → Prop) (p0 : K.ty (K.slice (4 : TypeId) K.bool)) :
    t40 Q p0 = (afun tt E40 A40 Try.f40 (I40 p0) [] Q) := by kernel_rfl
def H40 (Q : List V1 → List Ob → Prop) (p0 : K.ty (K.slice (4 : TypeId) K.bool)) : Prop := t40 Q p0
theorem ok40 (Q : List V1 → List Ob → Prop) (p0 : K.ty (K.slice (4 : TypeId) K.bool)) (h : H40 Q p0) : Of (afun tt E40 A40 Try.f40 (I40 p0) [] Q) :=
  kcO (t40_eq Q p0) (t40_mono (fun _ _ h => h) p0 h)
theorem env40 : EnvOk Try.prog E40 := .nil
theorem room4 {n : Nat} (h : n ≤ 1000000000000) : room tt 4 n := by
  show n * 1 ≤ 140737488355328; omega
theorem spec40 : SpecOk Try.prog 40 sp40 := S1.ok tt_ok mixed env40 Try.func40 fun x Q h => ok40 Q x <| by
  obtain ⟨h1, h2⟩ := h
  intro b hb
  refine brP_intro (fun c => ?_) (fun c => ?_)
  · rw [hb c] at h2; exact h2
  · exact ⟨room4 (by simpa using h1), h2⟩
/-- image.Set -/
def setI (l : List Bool) (n : Int) (v : Bool) : List Bool × Int := bif isIn l.length n then (l.set n.toNat v, 0) else ([], 3)
def F71 (l : List Bool) (n : Int) (v : Bool) (Q : QT) : Prop := l.length ≤ 1000000000000 ∧ Q [.one (.own 0), .one (.int .i64 (setI l n v).2)] [orow (setI l n v).1]
def sp71 : PT := S3 kbs ki .bool F71
-- f71 "busbar/image.Set" ['25', '3', '4'] -> ['25', '32']
def A71 : Ann := []
def E71 : Env := [(75, sp75)]
def I71 (p0 : ((.slice 4 .bool) : K).ty) (p1 : ((.int .i64) : K).ty) (p2 : (.bool : K).ty) : List V1 := [nfK (.slice 4 .bool) p0, nfK (.int .i64) p1, nfK .bool p2]
def t71 (Q : List V1 → List Ob → Prop) (p0 : K.ty (K.slice (4 : TypeId) K.bool)) (p1 : K.ty (K.int IntKind.i64)) (p2 : K.ty K.bool) : Prop :=
  brP (!isIn (List.length p0) p1) (Q [V1.one (Lf.own (0 : Nat)), V1.one (Lf.int IntKind.i64 (3 : Int))] [Ob.row (4 : TypeId) K.bool []]) (((0 : Int) ≤ (↑(List.length p0) : Int) ∧ (↑(List.length p0) : Int) ≤ (↑(List.length p0) : Int) ∧ (↑(List.length p0) : Int) ≤ (17592186044416 : Int)) ∧ room tt (4 : TypeId) (Int.toNat (↑(List.length p0) : Int)) ∧ bound p1 (List.length (List.take (List.length (List.replicate (Int.toNat (↑(List.length p0) : Int)) (K.dflt K.bool))) p0 ++ List.drop (List.length p0) (List.replicate (Int.toNat (↑(List.length p0) : Int)) (K.dflt K.bool)))) ∧ Q [V1.one (Lf.own (0 : Nat)), V1.one (Lf.int IntKind.i64 (0 : Int))] [Ob.row (4 : TypeId) K.bool (List.set (List.take (List.length (List.replicate (Int.toNat (↑(List.length p0) : Int)) (K.dflt K.bool))) p0 ++ List.drop (List.length p0) (List.replicate (Int.toNat (↑(List.length p0) : Int)) (K.dflt K.bool))) (Int.toNat p1) p2)])
theorem t71_mono {Q : List V1 → List Ob → Prop} {Q' : List V1 → List Ob → Prop} (hq : ∀ r h, Q r h → Q' r h) (p0 : K.ty (K.slice (4 : TypeId) K.bool)) (p1 : K.ty (K.int IntKind.i64)) (p2 : K.ty K.bool) :
    t71 Q p0 p1 p2 → t71 Q' p0 p1 p2 :=
  brM (hq _ _) (andM (andM (id) (andM (id) (id))) (andM (id) (andM (id) (hq _ _))))
theorem t71_eq (Q : List V1 → List Ob → Prop) (p0 : K.ty (K.slice (4 : TypeId) K.bool)) (p1 : K.ty (K.int IntKind.i64)) (p2 : K.ty K.bool) :
    t71 Q p0 p1 p2 = (afun tt E71 A71 Try.f71 (I71 p0 p1 p2) [] Q) := by kernel_rfl
def H71 (Q : List V1 → List Ob → Prop) (p0 : K.ty (K.slice (4 : TypeId) K.bool)) (p1 : K.ty (K.int IntKind.i64)) (p2 : K.ty K.bool) : Prop := t71 Q p0 p1 p2
theorem ok71 (Q : List V1 → List Ob → Prop) (p0 : K.ty (K.slice (4 : TypeId) K.bool)) (p1 : K.ty (K.int IntKind.i64)) (p2 : K.ty K.bool) (h : H71 Q p0 p1 p2) : Of (afun tt E71 A71 Try.f71 (I71 p0 p1 p2) [] Q) :=
  kcO (t71_eq Q p0 p1 p2) (t71_mono (fun _ _ h => h) p0 p1 p2 h)
theorem env71 : EnvOk Try.prog E71 := .cons spec75 (by kernel_rfl) <| .nil
theorem spec71 : SpecOk Try.prog 71 sp71 := S3.ok tt_ok mixed env71 Try.func71 fun l n v Q h => ok71 Q l n v <| by
  obtain ⟨h1, h2⟩ := h
  refine brP_intro (fun c => ?_) (fun c => ?_)
  · have c : isIn l.length n = false := by simpa using c
    simpa [setI, c] using h2
  · have c : isIn l.length n = true := by simpa using c
    have e : List.take l.length l ++ List.drop l.length (List.replicate l.length (K.dflt .bool)) = l := by simp
    refine ⟨⟨by omega, by omega, by omega⟩, room4 (by simpa using h1), ?_, ?_⟩
    · simp only [List.length_replicate, Int.toNat_natCast, e]; exact isIn_iff.1 c
    · simp only [List.length_replicate, Int.toNat_natCast, e]; simpa [setI, c] using h2
/-- addr.CheckSize -/
def checkSize (s : k59.ty) : Int := bif within s.2.2.2 16384 && within s.1 256 && within s.2.1 256 && within s.2.2.1 256 then 0 else 3
def F35 (s : k59.ty) (Q : QT) : Prop := Q [.one (.int .i64 (checkSize s))] []
def sp35 : PT := S1 k59 F35
-- f35 "busbar/addr.CheckSize" ['60'] -> ['32']
def A35 : Ann := []
def E35 : Env := [(52, sp52)]
def I35 (p0 : (k59 : K).ty) : List V1 := [nfK k59 p0]
def t35 (Q : List V1 → List Ob → Prop) (p0 : K.ty k59) : Prop :=
  brP (!within p0.snd.snd.snd (16384 : Int)) (Q [V1.one (Lf.int IntKind.i64 (3 : Int))] []) (brP (!within p0.fst (256 : Int)) (Q [V1.one (Lf.int IntKind.i64 (3 : Int))] []) (brP (!within p0.snd.fst (256 : Int)) (Q [V1.one (Lf.int IntKind.i64 (3 : Int))] []) (brP (!within p0.snd.snd.fst (256 : Int)) (Q [V1.one (Lf.int IntKind.i64 (3 : Int))] []) (Q [V1.one (Lf.int IntKind.i64 (0 : Int))] []))))
theorem t35_mono {Q : List V1 → List Ob → Prop} {Q' : List V1 → List Ob → Prop} (hq : ∀ r h, Q r h → Q' r h) (p0 : K.ty k59) :
    t35 Q p0 → t35 Q' p0 :=
  brM (hq _ _) (brM (hq _ _) (brM (hq _ _) (brM (hq _ _) (hq _ _))))
theorem t35_eq (Q : List V1 → List Ob → Prop) (p0 : K.ty k59) :
    t35 Q p0 = (afun tt E35 A35 Try.f35 (I35 p0) [] Q) := by kernel_rfl
def H35 (Q : List V1 → List Ob → Prop) (p0 : K.ty k59) : Prop := t35 Q p0
theorem ok35 (Q : List V1 → List Ob → Prop) (p0 : K.ty k59) (h : H35 Q p0) : Of (afun tt E35 A35 Try.f35 (I35 p0) [] Q) :=
  kcO (t35_eq Q p0) (t35_mono (fun _ _ h => h) p0 h)
theorem env35 : EnvOk Try.prog E35 := .cons spec52 (by kernel_rfl) <| .nil
theorem spec35 : SpecOk Try.prog 35 sp35 := S1.ok tt_ok mixed env35 Try.func35 fun s Q h => ok35 Q s <| by
  unfold F35 checkSize at h
  unfold H35 t35
  repeat' first | refine brP_intro (fun c => ?_) (fun c => ?_) | (simp_all; done)
/-- printer.sizes -/
def sizesOf (l : k23.ty) : k59.ty := (l.1, l.2.1, l.2.2.1, 0)
def F34 (l : k23.ty) (Q : QT) : Prop := Q [nfK k59 (sizesOf l)] []
def sp34 : PT := S1 k23 F34
-- f34 "busbar/printer.sizes" ['24'] -> ['60']
def A34 : Ann := []
def E34 : Env := []
def I34 (p0 : (k23 : K).ty) : List V1 := [nfK k23 p0]
def t34 (Q : List V1 → List Ob → Prop) (p0 : K.ty k23) : Prop :=
  Q [V1.agg [Lf.int IntKind.i64 p0.fst, Lf.int IntKind.i64 p0.snd.fst, Lf.int IntKind.i64 p0.snd.snd.fst, Lf.int IntKind.i64 (0 : Int)]] []
theorem t34_mono {Q : List V1 → List Ob → Prop} {Q' : List V1 → List Ob → Prop} (hq : ∀ r h, Q r h → Q' r h) (p0 : K.ty k23) :
    t34 Q p0 → t34 Q' p0 :=
  hq _ _
theorem t34_eq (Q : List V1 → List Ob → Prop) (p0 : K.ty k23) :
    t34 Q p0 = (afun tt E34 A34 Try.f34 (I34 p0) [] Q) := by kernel_rfl
def H34 (Q : List V1 → List Ob → Prop) (p0 : K.ty k23) : Prop := t34 Q p0
theorem ok34 (Q : List V1 → List Ob → Prop) (p0 : K.ty k23) (h : H34 Q p0) : Of (afun tt E34 A34 Try.f34 (I34 p0) [] Q) :=
  kcO (t34_eq Q p0) (t34_mono (fun _ _ h => h) p0 h)
theorem env34 : EnvOk Try.prog E34 := .nil
theorem spec34 : SpecOk Try.prog 34 sp34 := S1.ok tt_ok mixed env34 Try.func34 fun l Q h => ok34 Q l h
/-- state.images -/
def F39 (s : k26.ty) (Q : QT) : Prop := Q [.agg [.sl 4 .bool s.1, .sl 4 .bool s.2.1, .sl 4 .bool s.2.2]] []
def sp39 : PT := S1 k26 F39
-- f39 "busbar/state.images" ['27'] -> ['83']
def A39 : Ann := []
def E39 : Env := []
def I39 (p0 : (k26 : K).ty) : List V1 := [nfK k26 p0]
def t39 (Q : List V1 → List Ob → Prop) (p0 : K.ty k26) : Prop :=
  Q [V1.agg [Lf.sl (4 : TypeId) K.bool p0.fst, Lf.sl (4 : TypeId) K.bool p0.snd.fst, Lf.sl (4 : TypeId) K.bool p0.snd.snd]] []
theorem t39_mono {Q : List V1 → List Ob → Prop} {Q' : List V1 → List Ob → Prop} (hq : ∀ r h, Q r h → Q' r h) (p0 : K.ty k26) :
    t39 Q p0 → t39 Q' p0 :=
  hq _ _
theorem t39_eq (Q : List V1 → List Ob → Prop) (p0 : K.ty k26) :
    t39 Q p0 = (afun tt E39 A39 Try.f39 (I39 p0) [] Q) := by kernel_rfl
def H39 (Q : List V1 → List Ob → Prop) (p0 : K.ty k26) : Prop := t39 Q p0
theorem ok39 (Q : List V1 → List Ob → Prop) (p0 : K.ty k26) (h : H39 Q p0) : Of (afun tt E39 A39 Try.f39 (I39 p0) [] Q) :=
  kcO (t39_eq Q p0) (t39_mono (fun _ _ h => h) p0 h)
theorem env39 : EnvOk Try.prog E39 := .nil
theorem spec39 : SpecOk Try.prog 39 sp39 := S1.ok tt_ok mixed env39 Try.func39 fun l Q h => ok39 Q l h
/-- What a state's images may hold. -/
def small (s : k26.ty) : Prop := s.1.length ≤ 1000000000000 ∧ s.2.1.length ≤ 1000000000000 ∧ s.2.2.length ≤ 1000000000000
/-- state.Clone -/
def F25 (s : k26.ty) (Q : QT) : Prop := small s ∧ Q [.agg [.own 0, .own 1, .own 2]] [orow s.1, orow s.2.1, orow s.2.2]
def sp25 : PT := S1 k26 F25
-- f25 "busbar/state.Clone" ['27'] -> ['27']
def A25 : Ann := []
def E25 : Env := [(40, sp40)]
def I25 (p0 : (k26 : K).ty) : List V1 := [nfK k26 p0]
def t25 (Q : List V1 → List Ob → Prop) (p0 : K.ty k26) : Prop :=
  List.length p0.fst ≤ (1000000000000 : Nat) ∧ List.length p0.snd.fst ≤ (1000000000000 : Nat) ∧ List.length p0.snd.snd ≤ (1000000000000 : Nat) ∧ Q [V1.agg [Lf.own (0 : Nat), Lf.own ((0 : Nat) + (1 : Nat)), Lf.own ((0 : Nat) + (1 : Nat) + (1 : Nat))]] [Ob.row (4 : TypeId) K.bool p0.fst, Ob.row (4 : TypeId) K.bool p0.snd.fst, Ob.row (4 : TypeId) K.bool p0.snd.snd]
theorem t25_mono {Q : List V1 → List Ob → Prop} {Q' : List V1 → List Ob → Prop} (hq : ∀ r h, Q r h → Q' r h) (p0 : K.ty k26) :
    t25 Q p0 → t25 Q' p0 :=
  andM (id) (andM (id) (andM (id) (hq _ _)))
theorem t25_eq (Q : List V1 → List Ob → Prop) (p0 : K.ty k26) :
    t25 Q p0 = (afun tt E25 A25 Try.f25 (I25 p0) [] Q) := by kernel_rfl
def H25 (Q : List V1 → List Ob → Prop) (p0 : K.ty k26) : Prop := t25 Q p0
theorem ok25 (Q : List V1 → List Ob → Prop) (p0 : K.ty k26) (h : H25 Q p0) : Of (afun tt E25 A25 Try.f25 (I25 p0) [] Q) :=
  kcO (t25_eq Q p0) (t25_mono (fun _ _ h => h) p0 h)
theorem env25 : EnvOk Try.prog E25 := .cons spec40 (by kernel_rfl) <| .nil
theorem spec25 : SpecOk Try.prog 25 sp25 := S1.ok tt_ok mixed env25 Try.func25 fun l Q h => ok25 Q l ⟨h.1.1, h.1.2.1, h.1.2.2, h.2⟩
/-- the same, its result only read from here on -/
def F25s (s : k26.ty) (Q : QT) : Prop := small s ∧ Q [nfK k26 s] []
def sp25s : PT := S1 k26 F25s
theorem spec25s : SpecOk Try.prog 25 sp25s := S1.okS tt_ok mixed [k26] env25 Try.func25 fun l Q h => ok25 _ l ⟨h.1.1, h.1.2.1, h.1.2.2, h.2⟩
/-- lex.letter -/
def letter (c : Int) : Bool := bif decide (97 ≤ c) && decide (c ≤ 122) then true else decide (65 ≤ c) && decide (c ≤ 90)
def F68 (c : Int) (Q : QT) : Prop := Q [.one (.bool (letter c))] []
def sp68 : PT := S1 (.int .i32) F68
-- f68 "busbar/lex.letter" ['21'] -> ['4']
def A68 : Ann := []
def E68 : Env := []
def I68 (p0 : ((.int .i32) : K).ty) : List V1 := [nfK (.int .i32) p0]
def t68 (Q : List V1 → List Ob → Prop) (p0 : K.ty (K.int IntKind.i32)) : Prop :=
  brP (decide (p0 ≥ (97 : Int))) (brP (decide (p0 ≤ (122 : Int))) (Q [V1.one (Lf.bool true)] []) (brP (decide (p0 ≥ (65 : Int))) (Q [V1.one (Lf.bool (decide (p0 ≤ (90 : Int))))] []) (Q [V1.one (Lf.bool false)] []))) (brP (decide (p0 ≥ (65 : Int))) (Q [V1.one (Lf.bool (decide (p0 ≤ (90 : Int))))] []) (Q [V1.one (Lf.bool false)] []))
theorem t68_mono {Q : List V1 → List Ob → Prop} {Q' : List V1 → List Ob → Prop} (hq : ∀ r h, Q r h → Q' r h) (p0 : K.ty (K.int IntKind.i32)) :
    t68 Q p0 → t68 Q' p0 :=
  brM (brM (hq _ _) (brM (hq _ _) (hq _ _))) (brM (hq _ _) (hq _ _))
theorem t68_eq (Q : List V1 → List Ob → Prop) (p0 : K.ty (K.int IntKind.i32)) :
    t68 Q p0 = (afun tt E68 A68 Try.f68 (I68 p0) [] Q) := by kernel_rfl
def H68 (Q : List V1 → List Ob → Prop) (p0 : K.ty (K.int IntKind.i32)) : Prop := t68 Q p0
theorem ok68 (Q : List V1 → List Ob → Prop) (p0 : K.ty (K.int IntKind.i32)) (h : H68 Q p0) : Of (afun tt E68 A68 Try.f68 (I68 p0) [] Q) :=
  kcO (t68_eq Q p0) (t68_mono (fun _ _ h => h) p0 h)
theorem env68 : EnvOk Try.prog E68 := .nil
theorem spec68 : SpecOk Try.prog 68 sp68 := S1.ok tt_ok mixed env68 Try.func68 fun s Q h => ok68 Q s <| by
  unfold F68 letter at h
  unfold H68 t68
  repeat' first | refine brP_intro (fun c => ?_) (fun c => ?_) | (simp_all; done)
/-- lex.IsName -/
def nameCh (first : Bool) (c : Int) : Bool := letter c || (!first && (c == 95 || (decide (48 ≤ c) && decide (c ≤ 57))))
def isName (w : ByteArray) : Bool := bif w.size == 0 then false else bif decide (16 < w.size) then false else (List.range w.size).all fun i => nameCh (i == 0) (byteAt w i)
def F53 (w : ByteArray) (Q : QT) : Prop := Q [.one (.bool (isName w))] []
def sp53 : PT := S1 .str F53
-- f53 "busbar/lex.IsName" ['9'] -> ['4']
def A53 : Ann := [(0, [13], [], [2])]
def E53 : Env := [(68, sp68)]
def I53 (p0 : (.str : K).ty) : List V1 := [nfK .str p0]
noncomputable def L53_0 : Code := Code.a (Code.a (Code.b (Code.a (Code.b (Code.b (Func.code Try.f53))))))
def S53_0 (s0 : ByteArray) (p0 : Nat) : St := sp (37 : Nat) [((13 : Nat), V.v (V1.one (Lf.ptr (nat_lit 0) (nat_lit 0))))] [Ob.iter s0 p0]
def X53_0_0 (b2 : Bool) : St := sp (37 : Nat) [((2 : Nat), V.v (V1.one (Lf.bool b2)))] []
def X53_0_1 : St := sp (37 : Nat) [] []
def t53_0 (again : ByteArray → Nat → Prop) (R0 : Bool → Prop) (R1 : Prop) (s0 : ByteArray) (p0 : Nat) : Prop :=
  brP (decide (p0 < ByteArray.size s0)) (brP (lowB s0 p0) (brP (!letter (byteAt s0 p0)) (brP ((↑p0 : Int) == (0 : Int)) (R0 false) (brP (byteAt s0 p0 != (95 : Int)) (brP (decide (byteAt s0 p0 < (48 : Int))) (R0 false) (brP (decide (byteAt s0 p0 > (57 : Int))) (R0 false) (again s0 (p0 + (1 : Nat))))) (again s0 (p0 + (1 : Nat))))) (again s0 (p0 + (1 : Nat)))) (∀ (r2 : Int), (128 : Int) ≤ r2 → ∀ (m3 : Nat), brP (!letter r2) (brP ((↑p0 : Int) == (0 : Int)) (R0 false) (brP (r2 != (95 : Int)) (brP (decide (r2 < (48 : Int))) (R0 false) (brP (decide (r2 > (57 : Int))) (R0 false) (again s0 (p0 + m3)))) (again s0 (p0 + m3)))) (again s0 (p0 + m3)))) R1
theorem t53_0_mono {again : ByteArray → Nat → Prop} {R0 : Bool → Prop} {R1 : Prop} {again' : ByteArray → Nat → Prop} {R0' : Bool → Prop} {R1' : Prop} (ha : ∀ s0 p0, again s0 p0 → again' s0 p0) (hr0 : ∀ b2, R0 b2 → R0' b2) (hr1 :  R1 → R1') (s0 : ByteArray) (p0 : Nat) :
    t53_0 again R0 R1 s0 p0 → t53_0 again' R0' R1' s0 p0 :=
  brM (brM (brM (brM (hr0 _) (brM (brM (hr0 _) (brM (hr0 _) (ha _ _))) (ha _ _))) (ha _ _)) (fun hh x => ap (hh x) (fun hh x => ap (hh x) (fun hh x => ap (hh x) (brM (brM (hr0 _) (brM (brM (hr0 _) (brM (hr0 _) (ha _ _))) (ha _ _))) (ha _ _)))))) (hr1)
theorem t53_0_eq (n : Nat) (Q : Ex → St → Prop) (s0 : ByteArray) (p0 : Nat) :
    t53_0 (fun s0 p0 => loopP (awp tt E53 A53 L53_0 0) ([(13 : Nat)], [], [(2 : Nat)]) n (S53_0 s0 p0) Q) (fun b2 => Q (Ex.ret) (X53_0_0 b2)) ( Q (Ex.exit (nat_lit 0)) (X53_0_1)) s0 p0 = (loopP (awp tt E53 A53 L53_0 0) ([(13 : Nat)], [], [(2 : Nat)]) (n + 1) (S53_0 s0 p0) Q) := by kernel_rfl
def G53_0 (R0 : Bool → Prop) (R1 : Prop) : Nat → ByteArray → Nat → Prop
  | 0, _, _ => False
  | n + 1, s0, p0 => t53_0 (G53_0 R0 R1 n) R0 R1 s0 p0
theorem T53_0 {R0 : Bool → Prop} {R1 : Prop} (Q : Ex → St → Prop) (hr0 : ∀ b2, R0 b2 → Of (Q (Ex.ret) (X53_0_0 b2))) (hr1 :  R1 → Of (Q (Ex.exit (nat_lit 0)) (X53_0_1))) : ∀ (n : Nat) (s0 : ByteArray) (p0 : Nat), G53_0 R0 R1 n s0 p0 → Of (loopP (awp tt E53 A53 L53_0 0) ([(13 : Nat)], [], [(2 : Nat)]) n (S53_0 s0 p0) Q) := by
  intro n
  induction n with
  | zero => intro s0 p0 h; exact h.elim
  | succ n ih =>
    intro s0 p0 h
    exact kcO (t53_0_eq n Q s0 p0) (t53_0_mono (fun _ _ h => (ih _ _ h).out) (fun _ h => (hr0 _ h).out) (fun h => (hr1 h).out) s0 p0 h)
def t53 (Q : List V1 → List Ob → Prop) (lp0 : K.ty K.str → Prop) (p0 : K.ty K.str) : Prop :=
  brP (ByteArray.toList p0 == ByteArray.toList (ByteArray.mk #[])) (Q [V1.one (Lf.bool false)] []) (brP (decide ((↑(ByteArray.size p0) : Int) > (16 : Int))) (Q [V1.one (Lf.bool false)] []) (lp0 p0))
theorem t53_mono {Q : List V1 → List Ob → Prop} {Q' : List V1 → List Ob → Prop} {lp0 : K.ty K.str → Prop} {lp0' : K.ty K.str → Prop} (hq : ∀ r h, Q r h → Q' r h) (hlp0 : ∀ p0, lp0 p0 → lp0' p0) (p0 : K.ty K.str) :
    t53 Q lp0 p0 → t53 Q' lp0' p0 :=
  brM (hq _ _) (brM (hq _ _) (hlp0 _))
theorem t53_eq (Q : List V1 → List Ob → Prop) (p0 : K.ty K.str) :
    t53 Q (fun p0 => ∃ m, loopP (awp tt E53 A53 L53_0 0) ([(13 : Nat)], [], [(2 : Nat)]) m (S53_0 (p0) ((0 : Nat))) (blkC (0 : Nat) (seqC (awp tt E53 A53 (Code.b (Code.b (Code.b (Func.code Try.f53)))) (0 : Nat)) (topC tt Try.f53 0 Q)))) p0 = (afun tt E53 A53 Try.f53 (I53 p0) [] Q) := by kernel_rfl
def t53c0x1 (Q : List V1 → List Ob → Prop) (p0 : K.ty K.str) : Prop :=
  Q [V1.one (Lf.bool true)] []
theorem t53c0x1_mono {Q : List V1 → List Ob → Prop} {Q' : List V1 → List Ob → Prop} (hq : ∀ r h, Q r h → Q' r h) (p0 : K.ty K.str) :
    t53c0x1 Q p0 → t53c0x1 Q' p0 :=
  hq _ _
theorem t53c0x1_eq (Q : List V1 → List Ob → Prop) (p0 : K.ty K.str) :
    t53c0x1 Q p0 = ((blkC (0 : Nat) (seqC (awp tt E53 A53 (Code.b (Code.b (Code.b (Func.code Try.f53)))) (0 : Nat)) (topC tt Try.f53 0 Q))) (Ex.exit (nat_lit 0)) (X53_0_1)) := by kernel_rfl
def t53c0x0 (Q : List V1 → List Ob → Prop) (p0 : K.ty K.str) (b2e1 : Bool) : Prop :=
  Q [V1.one (Lf.bool b2e1)] []
theorem t53c0x0_mono {Q : List V1 → List Ob → Prop} {Q' : List V1 → List Ob → Prop} (hq : ∀ r h, Q r h → Q' r h) (p0 : K.ty K.str) (b2e1 : Bool) :
    t53c0x0 Q p0 b2e1 → t53c0x0 Q' p0 b2e1 :=
  hq _ _
theorem t53c0x0_eq (Q : List V1 → List Ob → Prop) (p0 : K.ty K.str) (b2e1 : Bool) :
    t53c0x0 Q p0 b2e1 = ((blkC (0 : Nat) (seqC (awp tt E53 A53 (Code.b (Code.b (Code.b (Func.code Try.f53)))) (0 : Nat)) (topC tt Try.f53 0 Q))) (Ex.ret) (X53_0_0 b2e1)) := by kernel_rfl
def H53 (Q : List V1 → List Ob → Prop) (p0 : K.ty K.str) : Prop := t53 Q (fun p0 => ∃ m, G53_0 (fun b2e1 => t53c0x0 Q p0 b2e1) ( t53c0x1 Q p0) m (p0) ((0 : Nat))) p0
theorem ok53 (Q : List V1 → List Ob → Prop) (p0 : K.ty K.str) (h : H53 Q p0) : Of (afun tt E53 A53 Try.f53 (I53 p0) [] Q) :=
  kcO (t53_eq Q p0) (t53_mono (fun _ _ h => h) (fun p0 ⟨m, h⟩ => ⟨m, (T53_0 _ (fun b2e1 h => kcO (t53c0x0_eq _ _ _) (t53c0x0_mono (fun _ _ h => h) _ _ h)) (fun h => kcO (t53c0x1_eq _ _) (t53c0x1_mono (fun _ _ h => h) _ h)) m _ _ h).out⟩) p0 h)
theorem env53 : EnvOk Try.prog E53 := .cons spec68 (by kernel_rfl) <| .nil
theorem letter_high {r : Int} (h : 128 ≤ r) : letter r = false := by
  simp [letter]; omega
theorem nameCh_high {r : Int} {b : Bool} (h : 128 ≤ r) : nameCh b r = false := by
  simp [nameCh, letter_high h]; omega
/-- A walk over a name: what is left. -/
def nameFrom (w : ByteArray) (i n : Nat) : Bool := (List.range' i n).all fun i => nameCh (i == 0) (byteAt w i)
theorem nameFrom_succ (w : ByteArray) (i n : Nat) : nameFrom w i (n + 1) = (nameCh (i == 0) (byteAt w i) && nameFrom w (i + 1) n) := by
  simp [nameFrom, List.range'_succ]
theorem loop53 (w : ByteArray) (R0 : Bool → Prop) (R1 : Prop) : ∀ n k i, k < n → i + k = w.size → (nameFrom w i k = true → R1) → (nameFrom w i k = false → R0 false) → G53_0 R0 R1 n w i := by
  intro n
  induction n with
  | zero => intro k i h; omega
  | succ n ih =>
    intro k i hk hi h1 h0
    refine brP_intro (fun c => ?_) (fun c => ?_)
    · have c : i < w.size := by simpa using c
      cases k with
      | zero => omega
      | succ k =>
        rw [nameFrom_succ] at h1 h0
        refine brP_intro (fun d => ?_) (fun d => ?_)
        · have key : nameCh (i == 0) (byteAt w i) = true → G53_0 R0 R1 n w (i + 1) := fun hc => ih k (i + 1) (by omega) (by omega) (fun h => h1 (by simp [hc, h])) (fun h => h0 (by simp [h]))
          have bad : nameCh (i == 0) (byteAt w i) = false → R0 false := fun hc => h0 (by simp [hc])
          unfold nameCh at key bad
          refine brP_intro (fun e => ?_) (fun e => key (by simp at e; simp [e]))
          refine brP_intro (fun f => bad ?_) (fun f => ?_)
          · simp at e f; subst f; simp [e]
          · refine brP_intro (fun g => ?_) (fun g => key ?_)
            · refine brP_intro (fun h => bad ?_) (fun h => ?_)
              · simp at e f g h; simp [e, f, g]; omega
              · refine brP_intro (fun j => bad ?_) (fun j => key ?_)
                · simp at e f g h j; simp [e, f, g]; omega
                · simp at e f g h j; simp [e, f, g]; omega
            · simp at e f g; simp [e, f, g]
        · have d : 128 ≤ byteAt w i := by
            have : ¬ byteAt w i < 128 := fun h => by rw [lowB_iff.2 h] at d; cases d
            omega
          intro r hr m
          have bad : R0 false := h0 (by simp [nameCh_high d])
          refine brP_intro (fun e => ?_) (fun e => by simp [letter_high hr] at e)
          refine brP_intro (fun f => bad) (fun f => ?_)
          refine brP_intro (fun g => ?_) (fun g => by simp at g; omega)
          refine brP_intro (fun h => bad) (fun h => ?_)
          refine brP_intro (fun j => bad) (fun j => by simp at j; omega)
    · have c : ¬ i < w.size := by simpa using c
      obtain rfl : k = 0 := by omega
      exact h1 rfl
theorem strEq (x y : ByteArray) : (x.toList == y.toList) = decide (x = y) := by
  rw [Bool.eq_iff_iff, Lib.bytes_beq_iff, decide_eq_true_iff]
theorem size_zero_iff (w : ByteArray) : w = ByteArray.mk #[] ↔ w.size = 0 :=
  ⟨fun h => by rw [h]; rfl, fun h => bytes_nil h⟩
theorem spec53 : SpecOk Try.prog 53 sp53 := S1.ok tt_ok mixed env53 Try.func53 fun w Q h => ok53 Q w <| by
  unfold F53 isName at h
  refine brP_intro (fun c => ?_) (fun c => ?_)
  · rw [strEq] at c
    have c : w.size = 0 := (size_zero_iff w).1 (by simpa using c)
    simpa [c] using h
  · rw [strEq] at c
    have c : w.size ≠ 0 := fun h => by simp [(size_zero_iff w).2 h] at c
    refine brP_intro (fun d => ?_) (fun d => ?_)
    · have d : 16 < w.size := by simp at d; omega
      simpa [c, d] using h
    · have d : ¬ 16 < w.size := by simp at d; omega
      have c' : (w.size == 0) = false := by simpa using c
      simp only [c', d, decide_false, cond_false] at h
      rw [List.range_eq_range'] at h
      refine ⟨w.size + 1, loop53 w _ _ _ w.size 0 (by omega) (by omega) (fun e => ?_) (fun e => ?_)⟩
      · unfold nameFrom at e; rw [e] at h; exact h
      · unfold nameFrom at e; rw [e] at h; exact h
end Go.AM
namespace Go.AM
open Go.Proofs
abbrev kR : K := .slice 46 k45
abbrev ksI : K := .slice 3 (.int .i64)
abbrev Con := k74.ty
abbrev Coi := k76.ty
abbrev Rung := k45.ty
abbrev Lad := k23.ty
abbrev Sta := k26.ty
abbrev zeroS : Sta := ([], [], [])
abbrev Rung.label (r : Rung) : ByteArray := r.1
abbrev Rung.contacts (r : Rung) : List Con := r.2.1
abbrev Rung.coils (r : Rung) : List Coi := r.2.2.1
abbrev Rung.jump (r : Rung) : ByteArray := r.2.2.2
abbrev Lad.rungs (l : Lad) : List Rung := l.2.2.2
abbrev str0 : ByteArray := ByteArray.mk #[]
def i64 (x : Int) : V1 := .one (.int .i64 x)
def bo (x : Bool) : V1 := .one (.bool x)
/-- state.Read -/
def img (inp : List Bool) (st : Sta) (k : Int) : List Bool := bif k == 0 then inp else bif k == 1 then st.1 else st.2.1
def readS (inp : List Bool) (st : Sta) (a : k72.ty) : Bool × Int := bif decide (a.1 < 0) then (false, 8) else bif decide (a.1 ≥ 3) then (false, 8) else get (img inp st a.1) a.2
def F58 (inp : List Bool) (st : Sta) (a : k72.ty) (Q : QT) : Prop := Q [.one (.bool (readS inp st a).1), .one (.int .i64 (readS inp st a).2)] []
def sp58 : PT := S3 kbs k26 k72 F58
/-- state.Fits -/
def fits (s : k59.ty) (st : Sta) : Bool := decide ((st.1.length : Int) = s.2.1) && (decide ((st.2.1.length : Int) = s.2.2.1) && (decide ((st.2.2.length : Int) = s.2.2.2) && checkSize s == 0))
def F24 (s : k59.ty) (st : Sta) (Q : QT) : Prop := Q [.one (.bool (fits s st))] []
def sp24 : PT := S2 k59 k26 F24
/-- rungeval.conducting, rungeval.writes -/
def conducting (k : Int) (v was : Bool) : Bool := bif k == 0 then v else bif k == 1 then !v else bif k == 2 then v && !was else !v && was
def F59 (k : Int) (v was : Bool) (Q : QT) : Prop := bound k 4 ∧ Q [.one (.bool (conducting k v was))] []
def sp59 : PT := S3 ki .bool .bool F59
def writes (k : Int) (on : Bool) : Bool × Bool := bif k == 0 then (on, true) else bif k == 1 then (!on, true) else bif k == 2 then (true, on) else (false, on)
def F60 (k : Int) (on : Bool) (Q : QT) : Prop := bound k 4 ∧ Q [.one (.bool (writes k on).1), .one (.bool (writes k on).2)] []
def sp60 : PT := S2 ki .bool F60
/-- state.Write -/
def writeS (st : Sta) (a : k72.ty) (v : Bool) : Sta × Int :=
  bif a.1 == 1 then (bif (setI st.1 a.2 v).2 != 0 then (zeroS, (setI st.1 a.2 v).2) else (((setI st.1 a.2 v).1, st.2.1, st.2.2), 0))
  else bif a.1 == 2 then (bif (setI st.2.1 a.2 v).2 != 0 then (zeroS, (setI st.2.1 a.2 v).2) else ((st.1, (setI st.2.1 a.2 v).1, st.2.2), 0)) else (zeroS, 8)
def F61 (st : Sta) (a : k72.ty) (v : Bool) (Q : QT) : Prop := small st ∧ Q [nfK k26 (writeS st a v).1, .one (.int .i64 (writeS st a v).2)] []
def sp61 : PT := S3 k26 k72 .bool F61
/-- printer.part -/
def partE (s : k59.ty) (k : Int) (a : k72.ty) : Int := bif decide (k < 0) then 8 else bif decide (k ≥ 4) then 8 else checkAddr s a
def F55 (s : k59.ty) (k : Int) (a : k72.ty) (Q : QT) : Prop := Q [.one (.int .i64 (partE s k a))] []
def sp55 : PT := S3 k59 ki k72 F55
/-! closures over rungs -/
def atK (k : K) (x : k.ty) (k' : K) (Q : k'.ty → Prop) : Prop := if h : k = k' then Q (h ▸ x) else False
def sp54 : PT := fun args h Q => match args, h with
  | [v, .one (.rp k x 0)], [] => dK k45 v fun r => atK k x k45 fun y => Q [.one (.bool (decide (Rung.label r = Rung.label y)))] []
  | _, _ => False
def sp38 : PT := fun args h Q => match args, h with
  | [v, .one (.rp k x 0)], [] => dK k45 v fun r => atK k x k45 fun y => Q [.one (.bool (decide (Rung.label r = Rung.jump y)))] []
  | _, _ => False
/-- The jump of a ladder's rung. -/
def jumpAt (l : Lad) (i : Int) : ByteArray := Rung.jump (getE k45 l.rungs i)
def sp57 : PT := fun args h Q => match args, h with
  | [v, .one (.rp k x 0), .one (.rp k2 x2 0)], [] => dK k45 v fun r => atK k x k23 fun l => atK k2 x2 ki fun i => bound i (Lad.rungs l).length ∧ Q [.one (.bool (decide (Rung.label r = jumpAt l i)))] []
  | _, _ => False
/-- A closure's question. -/
def cloK (f : FuncId) (caps : List Cap) (Q : (Rung → Bool) → Prop) : Prop :=
  match f, caps with
  | 54, [.imm k x] => atK k x k45 fun y => Q fun r => decide (Rung.label r = Rung.label y)
  | 38, [.imm k x] => atK k x k45 fun y => Q fun r => decide (Rung.label r = Rung.jump y)
  | 57, [.imm k x, .imm k2 x2] => atK k x k23 fun l => atK k2 x2 ki fun i => bound i (Lad.rungs l).length ∧ Q fun r => decide (Rung.label r = jumpAt l i)
  | _, _ => False
/-- slices.IndexFunc -/
def idxP (p : Rung → Bool) : List Rung → Nat → Int
  | [], _ => -1
  | r :: l, i => bif p r then (i : Int) else idxP p l (i + 1)
def sp56 : PT := fun args h Q => match args, h with
  | [v, .one (.clo f caps)], [] => dK kR v fun l => cloK f caps fun p => l.length ≤ 4611686018427387904 ∧ Q [.one (.int .i64 (idxP p l 0))] []
  | _, _ => False
/-- slices.ContainsFunc -/
def sp37 : PT := fun args h Q => match args, h with
  | [v, .one (.clo f caps)], [] => dK kR v fun l => cloK f caps fun p => l.length ≤ 4611686018427387904 ∧ Q [.one (.bool (decide (0 ≤ idxP p l 0)))] []
  | _, _ => False
/-- pathmodel.behind -/
def behind (l : Lad) (i : Int) : Int := i + 1 + idxP (fun r => decide (Rung.label r = jumpAt l i)) (l.rungs.drop (i + 1).toNat) 0
def F42 (l : Lad) (i : Int) (Q : QT) : Prop := bound i l.rungs.length ∧ l.rungs.length ≤ 1000000 ∧ Q [.one (.int .i64 (behind l i))] []
def sp42 : PT := S2 k23 ki F42
/-- printer.rung -/
def consE (s : k59.ty) : List Con → Int
  | [] => 0
  | c :: r => bif partE s c.1 c.2.1 != 0 then partE s c.1 c.2.1 else bif !isName c.2.2.1 then 6 else bif !isName c.2.2.2 then 6 else consE s r
def coisE (s : k59.ty) : List Coi → Int
  | [] => 0
  | c :: r => bif partE s c.1 c.2 != 0 then partE s c.1 c.2 else bif c.2.1 == 0 then 2 else coisE s r
def rungE2 (s : k59.ty) (r : Rung) : Int :=
  bif decide (r.contacts.length > 256) then 10 else bif consE s r.contacts != 0 then consE s r.contacts else bif decide (r.coils.length > 16) then 10 else
  bif coisE s r.coils != 0 then coisE s r.coils else bif !decide (r.jump = str0) && !isName r.jump then 6 else 0
def rungE (s : k59.ty) (ahead : List Rung) (r : Rung) : Int :=
  bif !decide (Rung.label r = str0) && !isName r.label then 6 else bif !decide (Rung.label r = str0) && decide (0 ≤ idxP (fun x => decide (x.label = r.label)) ahead 0) then 9 else rungE2 s r
def F36 (s : k59.ty) (ahead : List Rung) (r : Rung) (Q : QT) : Prop := ahead.length ≤ 4611686018427387904 ∧ Q [.one (.int .i64 (rungE s ahead r))] []
def sp36 : PT := S3 k59 kR k45 F36
/-- printer.Check: the first loop's find, the second's. -/
def chk1 (s : k59.ty) (l : List Rung) : Nat → Nat → Option (Int × Int)
  | _, 0 => none
  | i, n + 1 => bif rungE s (l.take i) (getE k45 l i) != 0 then some (i, rungE s (l.take i) (getE k45 l i)) else chk1 s l (i + 1) n
def found (l : List Rung) (i : Nat) : Bool := decide (0 ≤ idxP (fun r => decide (Rung.label r = Rung.jump (getE k45 l i))) (l.drop (i + 1)) 0)
def chk2 (l : List Rung) : Nat → Nat → Option (Int × Int)
  | _, 0 => none
  | i, n + 1 => bif !decide (Rung.jump (getE k45 l i) = str0) && !found l i then some (i, 15) else chk2 l (i + 1) n
def checkL (l : Lad) : Int × Int :=
  bif checkSize (sizesOf l) != 0 then (0, 3) else bif decide (l.rungs.length > 64) then (0, 10) else
  match chk1 (sizesOf l) l.rungs 0 l.rungs.length with
  | some x => x
  | none => match chk2 l.rungs 0 l.rungs.length with
    | some x => x
    | none => ((l.rungs.length : Int), 0)
def F23 (l : Lad) (Q : QT) : Prop := Q [.one (.int .i64 (checkL l).1), .one (.int .i64 (checkL l).2)] []
def sp23 : PT := S1 k23 F23
/-- pathmodel.SlotBases -/
def edges (r : Rung) : Int := (r.contacts.countP isEdge : Nat)
def basesFrom : Int → List Rung → List Int
  | b, [] => [b]
  | b, r :: l => b :: basesFrom (b + edges r) l
def F16 (l : Lad) (Q : QT) : Prop := (l.rungs.length ≤ 1000 ∧ ∀ r ∈ l.rungs, (Rung.contacts r).length ≤ 1000000) ∧ Q [.one (.sl 3 (.int .i64) (basesFrom 0 l.rungs))] []
def sp16 : PT := S1 k23 F16
/-- rungeval.Contacts -/
def conGo (inp : List Bool) (st : Sta) : List Con → Int → List Bool → List Bool → List Bool × List Bool × Int
  | [], _, e, on => (on, e, 0)
  | c :: r, slot, e, on =>
    bif decide (c.1 < 0) then ([], [], 8) else bif decide (c.1 ≥ 4) then ([], [], 8) else
    bif (readS inp st c.2.1).2 != 0 then ([], [], (readS inp st c.2.1).2) else
    bif isEdge c then (bif decide (slot < 0) then ([], [], 3) else bif decide (slot ≥ (e.length : Int)) then ([], [], 3) else
      conGo inp st r (slot + 1) (e.set slot.toNat (readS inp st c.2.1).1) (on ++ [conducting c.1 (readS inp st c.2.1).1 (getE .bool e slot)]))
    else conGo inp st r slot e (on ++ [conducting c.1 (readS inp st c.2.1).1 false])
def contactsR (r : Rung) (inp : List Bool) (st : Sta) (slot : Int) : List Bool × Sta × Int :=
  bif (conGo inp st r.contacts slot st.2.2 []).2.2 != 0 then ([], zeroS, (conGo inp st r.contacts slot st.2.2 []).2.2)
  else ((conGo inp st r.contacts slot st.2.2 []).1, (st.1, st.2.1, (conGo inp st r.contacts slot st.2.2 []).2.1), 0)
def F43 (r : Rung) (inp : List Bool) (st : Sta) (slot : Int) (Q : QT) : Prop := (small st ∧ r.contacts.length ≤ 1000000) ∧
  Q [.one (.sl 4 .bool (contactsR r inp st slot).1), nfK k26 (contactsR r inp st slot).2.1, .one (.int .i64 (contactsR r inp st slot).2.2)] []
def sp43 : PT := S4 k45 kbs k26 ki F43
/-- rungeval.Conducts -/
abbrev Live := List (ByteArray × Bool)
def lnode : ByteArray := ByteArray.mk #[76]
def rnode : ByteArray := ByteArray.mk #[82]
def reachIn (n : ByteArray) : List Con → List Bool → List ByteArray × Live → List ByteArray × Live
  | [], _, x => x
  | _ :: _, [], x => x
  | c :: cs, o :: on, (todo, live) => reachIn n cs on (bif o && (decide (c.2.2.1 = n) && !mget live c.2.2.2) then (todo ++ [c.2.2.2], mset live c.2.2.2 true) else (todo, live))
def reachGo (cs : List Con) (on : List Bool) : Nat → List ByteArray → Live → Live
  | 0, _, live => live
  | _ + 1, [], live => live
  | n + 1, x :: todo, live => reachGo cs on n (reachIn x cs on (todo, live)).1 (reachIn x cs on (todo, live)).2
def conductsR (r : Rung) (on : List Bool) : Bool × Int :=
  bif decide (on.length = r.contacts.length) then (mget (reachGo r.contacts on (r.contacts.length + 2) [lnode] [(lnode, true)]) rnode, 0) else (false, 2)
def F44 (r : Rung) (on : List Bool) (Q : QT) : Prop := r.contacts.length ≤ 1000000 ∧ Q [.one (.bool (conductsR r on).1), .one (.int .i64 (conductsR r on).2)] []
def sp44 : PT := S2 k45 kbs F44
/-- rungeval.Coils -/
def coilGo (on : Bool) : List Coi → Sta → Sta × Int
  | [], s => (s, 0)
  | c :: r, s => bif decide (c.1 < 0) then (zeroS, 8) else bif decide (c.1 ≥ 4) then (zeroS, 8) else
    bif (writeS s c.2 (writes c.1 on).1).2 != 0 then (zeroS, (writeS s c.2 (writes c.1 on).1).2) else coilGo on r (bif (writes c.1 on).2 then (writeS s c.2 (writes c.1 on).1).1 else s)
def F45 (r : Rung) (st : Sta) (on : Bool) (Q : QT) : Prop := (small st ∧ r.coils.length ≤ 1000000) ∧ Q [nfK k26 (coilGo on r.coils st).1, .one (.int .i64 (coilGo on r.coils st).2)] []
def sp45 : PT := S3 k45 k26 .bool F45
/-- rungeval.Scan -/
def scanR (r : Rung) (inp : List Bool) (st : Sta) (slot : Int) : Sta × Bool × Int :=
  bif (contactsR r inp st slot).2.2 != 0 then (zeroS, false, (contactsR r inp st slot).2.2) else
  bif (conductsR r (contactsR r inp st slot).1).2 != 0 then (zeroS, false, (conductsR r (contactsR r inp st slot).1).2) else
  bif (coilGo (conductsR r (contactsR r inp st slot).1).1 r.coils (contactsR r inp st slot).2.1).2 != 0 then (zeroS, false, (coilGo (conductsR r (contactsR r inp st slot).1).1 r.coils (contactsR r inp st slot).2.1).2) else
  ((coilGo (conductsR r (contactsR r inp st slot).1).1 r.coils (contactsR r inp st slot).2.1).1, (conductsR r (contactsR r inp st slot).1).1, 0)
def F27 (r : Rung) (inp : List Bool) (st : Sta) (slot : Int) (Q : QT) : Prop := (small st ∧ r.contacts.length ≤ 1000000 ∧ r.coils.length ≤ 1000000) ∧
  Q [nfK k26 (scanR r inp st slot).1, .one (.bool (scanR r inp st slot).2.1), .one (.int .i64 (scanR r inp st slot).2.2)] []
def sp27 : PT := S4 k45 kbs k26 ki F27
/-- pathmodel.Scan: from a rung on -/
def nextR (l : Lad) (i : Nat) (on : Bool) : Nat := bif on && !decide (jumpAt l i = str0) then (behind l i).toNat else i + 1
def scanGo (l : Lad) (inp : List Bool) : Nat → Nat → Sta → List Bool → Sta × List Bool × Int
  | 0, _, s, did => (s, did, 0)
  | n + 1, i, s, did => bif decide (l.rungs.length ≤ i) then (s, did, 0) else
    bif (scanR (getE k45 l.rungs i) inp s (getE ki (basesFrom 0 l.rungs) i)).2.2 != 0 then (zeroS, [], (scanR (getE k45 l.rungs i) inp s (getE ki (basesFrom 0 l.rungs) i)).2.2) else
    scanGo l inp n (nextR l i (scanR (getE k45 l.rungs i) inp s (getE ki (basesFrom 0 l.rungs) i)).2.1) (scanR (getE k45 l.rungs i) inp s (getE ki (basesFrom 0 l.rungs) i)).1 (did.set i true)
def sizeE (l : Lad) : k59.ty := (l.1, l.2.1, l.2.2.1, getE ki (basesFrom 0 l.rungs) l.rungs.length)
def scanL (l : Lad) (inp : List Bool) (st : Sta) : Sta × List Bool × Int :=
  bif (checkL l).2 != 0 then (zeroS, [], (checkL l).2) else
  bif !decide ((inp.length : Int) = l.1) || !fits (sizeE l) st then (zeroS, [], 2) else
  scanGo l inp l.rungs.length 0 st (List.replicate l.rungs.length false)
def F11 (l : Lad) (inp : List Bool) (st : Sta) (Q : QT) : Prop := small st ∧ Q [nfK k26 (scanL l inp st).1, .one (.sl 4 .bool (scanL l inp st).2.1), .one (.int .i64 (scanL l inp st).2.2)] []
def sp11 : PT := S3 k23 kbs k26 F11
end Go.AM
namespace Go.AM
open Go.Proofs
/-- busbarlaw03.TooLarge -/
def bigS (s : Sta) : Bool := decide ((s.1.length : Int) > 1000) || (decide ((s.2.1.length : Int) > 1000) || decide ((s.2.2.length : Int) > 1000))
def F20 (l : List Sta) (Q : QT) : Prop := l.length ≤ 1000000 ∧ Q [.one (.int .i64 (bif l.any bigS then 1 else 0))] []
def sp20 : PT := S1 (.slice 27 k26) F20
def wideL (l : Lad) : Prop := l.rungs.length ≤ 4611686018427387904 ∧ ∀ r ∈ l.rungs, (Rung.contacts r).length ≤ 4611686018427387904
def isBit (v : Int) : Prop := v = 0 ∨ v = 1
def F33 (l : Lad) (Q : QT) : Prop := wideL l ∧ ∀ v : Int, isBit v → (v = 0 → l.rungs.length ≤ 70) → Q [.one (.int .i64 v)] []
def sp33 : PT := S1 k23 F33
def okL (l : Lad) : Prop := l.rungs.length ≤ 70 ∧ ∀ r ∈ l.rungs, (Rung.contacts r).length ≤ 40
def F21 (l : Lad) (Q : QT) : Prop := wideL l ∧ ∀ v : Int, isBit v → (v = 0 → okL l) → Q [.one (.int .i64 v)] []
def sp21 : PT := S1 k23 F21
abbrev kIns : K := .slice 25 kbs
def okIn (l : Lad) (st : Sta) (ins : List (List Bool)) : Prop := okL l ∧ bigS st = false ∧ ins.length ≤ 30 ∧ ∀ x ∈ ins, x.length ≤ 500
def F8 (l : Lad) (st : Sta) (ins : List (List Bool)) (Q : QT) : Prop := (wideL l ∧ ins.length ≤ 4611686018427387904) ∧ ∀ v : Int, isBit v → (v = 0 → okIn l st ins) → Q [.one (.int .i64 v)] []
def sp8 : PT := S3 k23 k26 kIns F8
def znode : ByteArray := ByteArray.mk #[122]
def con0 : Con := (0, (0, 0), lnode, rnode)
def exampleL : Lad := (1, 2, 0, [(str0, [con0], [], znode), (str0, [con0], [(0, 1, 0)], str0), (znode, [con0], [(0, 1, 1)], str0)])
def F22 (Q : QT) : Prop := Q [nfK k23 exampleL] []
def sp22 : PT := S0 F22
def F9 (Q : QT) : Prop := Q [.one (.bool true)] []
def sp9 : PT := S0 F9
def wideS (s : Sta) : Prop := small s
def F5 (l : Lad) (st : Sta) (inp : List Bool) (Q : QT) : Prop := wideL l ∧ Q [.one (.bool true)] []
def sp5 : PT := S3 k23 k26 kbs F5
end Go.AM
namespace Go.AM
open Go.RowKit
section
variable {P : Program} {T : TT} {E : Env} {w w' w0 : World} {B Ok0 Ok : Nat → Prop} {β : List Value} {st : St} {tm : List Value} {l n : Nat} {ds : List Deferred}
theorem calls_wide {f : FuncId} {args : Array Value} {R : Ending → World → Prop} (h : Calls P f args w R) : CallsIn Fence.wide n P f args w R := callsIn_wide.2 h
theorem rows_wide {row : String} {args : Array Value} {R : Value → World → Prop} (h : Rows P row args w R) : RowsIn Fence.wide n P row args w R :=
  fun c cs _ => let ⟨v, w', r, s⟩ := h c cs; ⟨v, w', r, stepsIn_wide.2 s⟩
theorem op_wide {o : Oper} {a : Act} {K : Act → World → Prop} {Q : Exit → Act → World → Prop} (h : o.wp P a w K Q) : o.wpIn Fence.wide n P a w K Q := by
  refine ⟨fun _ _ => trivial, ?_⟩
  have e : o.semAt Fence.wide.round a.eval = execOp a.eval o := by simp [Fence.wide, Oper.semAt]
  rw [e]
  unfold Oper.wp at h
  generalize (execOp a.eval o).run P w = r at h
  cases r with
  | ok x w' =>
    cases x <;> simp only [Oper.upon, Oper.uponIn] at h ⊢ <;> first
      | exact h
      | exact ⟨fun h => by simp [Fence.wide] at h, calls_wide h⟩
      | exact ⟨fun h => by simp [Fence.wide] at h, rows_wide h⟩
      | exact h.elim
  | halt x w' => cases x <;> simp only [Oper.upon, Oper.uponIn] at h ⊢ <;> exact h
/-- Some operations of a region, and what follows. -/
theorem opsK_then (hT : ttOk P T = true) (hE : EnvOk P E) (hB : ∀ g, B g → g < w0.heap.size) {ops : Array Oper} {rest : List Oper} {R : Exit → Act → World → Prop} {Q : St → Prop} : ∀ (os : List Oper) {st : St} {a : Act} {w : World} {Ok : Nat → Prop} {β : List Value},
    a.defers = ds → Rel B Ok0 w0 w Ok β st a.tmps.toList → opsK T E ops.toList os st Q → (∀ a' w', Post ds B Ok0 w0 Q a' w' → wpListIn Fence.wide n P ops R rest a' w') → wpListIn Fence.wide n P ops R (os ++ rest) a w
  | [], st, a, w, Ok, β, hd, r, h, hk => hk a w ⟨hd, st, Ok, β, h, r⟩
  | o :: os, st, a, w, Ok, β, hd, r, h, hk => by
    have hs := runK_step (ops := ops) hT hE hB hd r h
    have next : ∀ a' w', Post ds B Ok0 w0 (fun st => opsK T E ops.toList os st Q) a' w' → wpListIn Fence.wide n P ops R (os ++ rest) a' w' := by
      rintro a' w' ⟨hd', st', Ok', β', hq, r'⟩
      exact opsK_then hT hE hB os hd' r' hq hk
    show wpListIn Fence.wide n P ops R (o :: (os ++ rest)) a w
    simp only [wpListIn]
    split
    · rename_i hw
      exact op_wide ((hs.yes hw).wp fun v w' h => next _ _ h.2)
    · rename_i hw
      exact ⟨fun _ _ => trivial, next _ _ (hs.no (by simpa using hw))⟩
/-! ### codes in a row -/
def seqL : List Code → Code → Code
  | [], r => r
  | x :: xs, r => .seq x (seqL xs r)
def awpL (T : TT) (E : Env) (A : Ann) : List Code → Nat → St → (Ex → St → Prop) → Prop
  | [], _, st, Q => Q .normal st
  | x :: xs, c, st, Q => awp T E A x c st (seqC (awpL T E A xs c) Q)
theorem awpL_sound (hT : ttOk P T = true) (hE : EnvOk P E) (hm : P.follows .mixedOrders = true) (hB : ∀ g, B g → g < w0.heap.size) {A : Ann} {rest : Code} {R : Exit → Act → World → Prop} {Q : Ex → St → Prop} (c : Nat)
    (hr : ∀ a w, PostX ds B Ok0 w0 Q .normal a w → rest.wpIn Fence.wide n P R a w) (hx : ∀ e a w, e ≠ .normal → PostX ds B Ok0 w0 Q e a w → R e a w) :
    ∀ (xs : List Code) {st : St} {a : Act} {w : World} {Ok : Nat → Prop} {β : List Value}, a.defers = ds → Rel B Ok0 w0 w Ok β st a.tmps.toList → awpL T E A xs c st Q → (seqL xs rest).wpIn Fence.wide n P R a w
  | [], st, a, w, Ok, β, hd, r, h => hr a w ⟨hd, st, Ok, β, h, r⟩
  | x :: xs, st, a, w, Ok, β, hd, r, h => by
    refine wpIn_seq (wpIn_mono (wpIn_wide.2 (awp_sound hT hE hm hB x c hd r h)) fun e a' w' hq => ?_)
    cases e with
    | normal =>
      obtain ⟨hd', st', Ok', β', hq, r'⟩ := hq
      exact awpL_sound hT hE hm hB c hr hx xs hd' r' hq
    | exit id => exact hx _ _ _ (by simp) hq
    | ret => exact hx _ _ _ (by simp) hq
    | _ => exact hq.elim
/-! ### frames, blocks -/
theorem Rel.pushFrame (r : Rel B Ok0 w0 w Ok β st tm) (hB : ∀ g, B g → g < w0.heap.size) : Rel B Ok0 w0 w Ok (β ++ [undef]) ⟨st.slots, st.heap ++ [.frame tm st.slots]⟩ tm :=
  r.push hB (Nat.le_refl _) rfl rfl rfl (fun _ _ => rfl) (fun g hg => by rw [blkOf_undef] at hg; cases hg)
    ⟨rfl, r.s.s.mono fun _ _ => RelV.mono (Stay.refl w Ok) (fun i u h => get_append_some h)⟩
theorem Rel.frame_get (r : Rel B Ok0 w0 w Ok β st tm) {i : Nat} {u : List Value} {cs : List V} (h : st.heap[i]? = some (.frame u cs)) : All2 (RelV w Ok β) cs u := by
  obtain ⟨v, _, _, hr⟩ := r.s.h.obj h
  exact hr
theorem Rel.withSlots (r : Rel B Ok0 w0 w Ok β st tm) {cs : List V} {u : List Value} (h : All2 (RelV w Ok β) cs u) : Rel B Ok0 w0 w Ok β ⟨cs, st.heap⟩ u :=
  ⟨⟨r.s.h, h⟩, r.fr, r.wr, r.new, r.old⟩
theorem Rel.ren (r : Rel B Ok0 w0 w Ok β st tm) {L : List Nat} {heap' : List Ob} (hn : nodupB L = true) (hr : renHeap L st.heap L = some heap') : ∃ β', Rel B Ok0 w0 w Ok β' ⟨st.slots.map (mapV (renL L)), heap'⟩ tm := by
  obtain ⟨hH, hm⟩ := renH r.s.h hn hr
  exact ⟨_, ⟨hH, All2.map _ (r.s.s.mono fun _ _ => RelV.mapL _ rfl fun _ _ => ren_rel)⟩, r.fr, fun v g hv => r.wr v g (hm v hv), r.new, r.old⟩
theorem Rel.pushRaw (r : Rel B Ok0 w0 w Ok β st tm) (hB : ∀ g, B g → g < w0.heap.size) (o : Obj) :
    Rel B Ok0 w0 (w.alloc o) Ok (β ++ [.pointer (some ⟨w.heap.size, 0, none⟩)]) ⟨st.slots, st.heap ++ [.raw w.heap.size o]⟩ tm :=
  r.alloc hB o rfl ⟨rfl, heap_alloc_new w o⟩
theorem Rel.raw_get (r : Rel B Ok0 w0 w Ok β st tm) {i g : Nat} {o : Obj} (h : st.heap[i]? = some (.raw g o)) : w.heap[g]? = some o ∧ β[i]? = some (.pointer (some ⟨g, 0, none⟩)) := by
  obtain ⟨v, hv, h1, h2⟩ := r.s.h.obj h
  exact ⟨h2, by rw [hv, h1]⟩
def setOb (i : Nat) (o : Ob) (s : St) : St := ⟨s.slots, s.heap.set i o⟩
theorem Rel.raw_set (r : Rel B Ok0 w0 w Ok β st tm) (hB : ∀ g, B g → g < w0.heap.size) {i g : Nat} {o : Obj} (h : st.heap[i]? = some (.raw g o)) (o' : Obj) : Rel B Ok0 w0 (w.putObj g o') Ok β (setOb i (.raw g o') st) tm :=
  r.put1 hB (r.raw_get h).2 rfl o' fun _ hw => ⟨rfl, hw⟩
/-! ### a call, the whole heap handed over -/
theorem inline_calls (r : Rel B Ok0 w0 w Ok β st tm) (hB : ∀ g, B g → g < w0.heap.size) {f : FuncId} {p : PT} (hp : SpecOk P f p) {xs : List V1} {vals : List Value} (hx : All2 (RelV1 w Ok β) xs vals) {K' : List V1 → List Ob → Prop}
    (h : p xs (st.heap ++ [.frame tm st.slots]) K') : Calls P f vals.toArray w fun e w' => ∃ v, e = .returned v ∧ ∃ res h' Ok' β', K' res h' ∧ RetV w' Ok' β' res v ∧ Rel B Ok0 w0 w' Ok' β' ⟨[], h'⟩ [] := by
  have r1 := r.pushFrame hB
  have hx1 : All2 (RelV1 w Ok (β ++ [undef])) xs vals := hx.mono fun _ _ => RelV1.mono (Stay.refl w Ok) (fun i u h => get_append_some h)
  refine Calls.mono (hp xs _ K' h w Ok (β ++ [undef]) vals hx1 r1.s.h) fun e w' he => ?_
  cases e with
  | returned v =>
    obtain ⟨res, h', Ok', β', hk, hret, hrel⟩ := he
    have hheld : ∀ g, B g → Held w (β ++ [undef]) g := fun g hg => ⟨Nat.lt_of_lt_of_le (hB g hg) r.fr.size, fun v hv hb => r1.wr v g hv hb hg⟩
    have hnot : ∀ g, ¬ Held w (β ++ [undef]) g → ¬ B g := fun g hg hb => hg (hheld g hb)
    refine ⟨v, rfl, res, h', Ok', β', hk, hret, hrel.s, ⟨hrel.fr.os.trans r.fr.os, hrel.fr.tape.trans r.fr.tape, hrel.fr.output.trans r.fr.output, Nat.le_trans r.fr.size hrel.fr.size, fun g hg => (hrel.fr.block g (hheld g hg)).trans (r.fr.block g hg)⟩,
      fun v g hv hg => hnot g (hrel.wr v g hv hg), fun g hg => ?_, fun g hg => hrel.old g (r.old g hg)⟩
    rcases hrel.new g hg with h | h
    · exact r.new g h
    · exact .inr (hnot g h)
  | panicked _ => exact he.elim
  | outgrown => exact he.elim
/-! ### a round -/
def atRaw (i : Nat) (s : St) (Q : Nat → Obj → Prop) : Prop :=
  match s.heap[i]? with
  | some (.raw g o) => Q g o
  | _ => False
theorem atRaw_iff {i : Nat} {s : St} {Q : Nat → Obj → Prop} (h : atRaw i s Q) : ∃ g o, s.heap[i]? = some (.raw g o) ∧ Q g o := by
  unfold atRaw at h
  split at h
  · rename_i g o e; exact ⟨g, o, e, h⟩
  · exact h.elim
/-- Back to the frame that stands at iG; only the objects of L stay. -/
def backTo (iG : Nat) (tm : List Value) (L : List Nat) (s : St) (R : St → Prop) : Prop :=
  match s.heap[iG]? with
  | some (.frame u cs) => u = tm ∧ ifK (nodupB L) (someK (renHeap L s.heap L) fun h' => stK ⟨cs.map (mapV (renL L)), h'⟩ R)
  | _ => False
theorem backTo_sound {iG : Nat} {tm' : List Value} {L : List Nat} {s : St} {R : St → Prop} (h : backTo iG tm' L s R) (r : Rel B Ok0 w0 w Ok β s tm) : ∃ s' β', R s' ∧ Rel B Ok0 w0 w Ok β' s' tm' := by
  unfold backTo at h
  split at h
  · rename_i u cs e
    obtain ⟨rfl, h⟩ := h
    obtain ⟨hn, h⟩ := ifK_iff h
    obtain ⟨h', hr, h⟩ := someK_iff h
    rw [stK_eq] at h
    obtain ⟨β', r'⟩ := (r.withSlots (r.frame_get e)).ren (L := L) hn hr
    exact ⟨_, β', h, r'⟩
  · exact h.elim
/-- What a round does: the assignments, the body; what stays behind it. -/
def roundK (T : TT) (E : Env) (A : Ann) (assign body : Code) (iL l : Nat) (oR oB oD : Obj) (iG : Nat) (tm : List Value) (L : List Nat) (s0 : St) (R0 R1 : St → Prop) : Prop :=
  awp T E A assign 0 s0 fun ex s => match ex with
    | .normal => atRaw iL s fun g o => (g = l ∧ o = oR) ∧ awp T E A body 0 (setOb iL (.raw l oB) s) fun ex s => match ex with
      | .normal => atRaw iL s fun g o => (g = l ∧ o = oB) ∧ backTo iG tm L (setOb iL (.raw l oR) s) R0
      | .ret => atRaw iL s fun g o => (g = l ∧ o = oB) ∧ backTo iG tm L (setOb iL (.raw l oD) s) R1
      | .exit _ => False
    | _ => False
theorem round_sound (hT : ttOk P T = true) (hE : EnvOk P E) (hm : P.follows .mixedOrders = true) (hB : ∀ g, B g → g < w0.heap.size) {A : Ann} {fn : FuncId} {u : List Value} {ps : Array Tmp} {assign body : Code} {D iL : Nat}
    (hra : roundB assign = true) (hrb : roundB body = true) (r : Rel B Ok0 w0 w Ok β st tm)
    (hL : st.heap[iL]? = some (.raw l (.loop { state := .ready, pending := none, fn := fn, tmps := u.toArray, params := ps, assign := assign, body := body, defers := D })))
    {args : Array Value} (hps : args.size = ps.size) {sA : List V} (hsA : All2 (RelV w Ok β) sA ((ps.zip args).foldl (fun tmps (t, a) => tmps.setIfInBounds t a) u.toArray).toList) {L : List Nat} {R0 R1 : St → Prop}
    (h : roundK T E A assign body iL l (.loop { state := .ready, pending := none, fn := fn, tmps := u.toArray, params := ps, assign := assign, body := body, defers := D })
      (.loop { state := .busy, pending := none, fn := fn, tmps := u.toArray, params := ps, assign := assign, body := body, defers := D })
      (.loop { state := .done, pending := some .ret, fn := fn, tmps := u.toArray, params := ps, assign := assign, body := body, defers := D }) st.heap.length tm L ⟨sA, st.heap ++ [.frame tm st.slots]⟩ R0 R1) :
    ∃ fn' tmps' assign' body', (Instr.yield l args).run P w = .ok (.round l fn' tmps' assign' body') w ∧ RoundIn Fence.wide n P l fn' tmps' assign' body' w fun e w' =>
      (e = .returned (.bool true) ∧ ∃ s Ok' β', R0 s ∧ Rel B Ok0 w0 w' Ok' β' s tm) ∨ (e = .returned (.bool false) ∧ ∃ s Ok' β', R1 s ∧ Rel B Ok0 w0 w' Ok' β' s tm) := by
  have hw := (r.raw_get hL).1
  refine ⟨_, _, _, _, run_yield hw hps, roundIn_of_wpIn trivial ?_⟩
  have r1 := (r.pushFrame hB).withSlots (hsA.mono fun _ _ => RelV.mono (Stay.refl w Ok) (fun i u h => get_append_some h))
  refine wpIn_mono (awpR_sound (ds := []) hT hE hm hB assign 0 (a := { tmps := _, defers := [] }) hra rfl r1 h) fun e a1 w1 hq => ?_
  cases e with
  | normal =>
    obtain ⟨hd, s, Ok1, β1, hq, r2⟩ := hq
    obtain ⟨g, o, hg, ⟨rfl, rfl⟩, hq⟩ := atRaw_iff hq
    refine ⟨_, run_beginRound (r2.raw_get hg).1 rfl, ?_⟩
    refine wpIn_mono (awpR_sound (ds := []) hT hE hm hB body 0 hrb hd (r2.raw_set hB hg _) hq) fun e a3 w3 hq => ?_
    cases e with
    | normal =>
      obtain ⟨_, s3, Ok3, β3, hq, r3⟩ := hq
      obtain ⟨g, o, hg3, ⟨rfl, rfl⟩, hq⟩ := atRaw_iff hq
      obtain ⟨s4, β4, hr0, r4⟩ := backTo_sound hq (r3.raw_set hB hg3 _)
      exact ⟨_, _, run_endRound none (r3.raw_get hg3).1, .inl ⟨rfl, s4, Ok3, β4, hr0, r4⟩⟩
    | ret =>
      obtain ⟨_, s3, Ok3, β3, hq, r3⟩ := hq
      obtain ⟨g, o, hg3, ⟨rfl, rfl⟩, hq⟩ := atRaw_iff hq
      obtain ⟨s4, β4, hr0, r4⟩ := backTo_sound hq (r3.raw_set hB hg3 _)
      exact ⟨_, _, run_endRound (some .ret) (r3.raw_get hg3).1, .inr ⟨rfl, s4, Ok3, β4, hr0, r4⟩⟩
    | exit _ =>
      obtain ⟨_, _, _, _, hq, _⟩ := hq
      exact hq.elim
    | _ => exact hq.elim
  | exit _ =>
    obtain ⟨_, _, _, _, hq, _⟩ := hq
    exact hq.elim
  | ret =>
    obtain ⟨_, _, _, _, hq, _⟩ := hq
    exact hq.elim
  | _ => exact hq.elim
end
end Go.AM
namespace Go.AM
open Go.Proofs
def E11 : Env := [(16, sp16), (23, sp23), (24, sp24), (25, sp25s), (27, sp27)]
def E41 : Env := [(42, sp42)]
noncomputable abbrev c11 : Code := Func.code Try.f11
noncomputable def z11 : Code := Code.b (Code.b (Code.b (Code.b (Code.b (Code.b (Code.b c11))))))
noncomputable def pre11 : List Code := [Code.a c11, Code.a (Code.b c11), Code.a (Code.b (Code.b c11)), Code.a (Code.b (Code.b (Code.b c11))), Code.a (Code.b (Code.b (Code.b (Code.b c11)))), Code.a (Code.b (Code.b (Code.b (Code.b (Code.b c11))))), Code.a (Code.b (Code.b (Code.b (Code.b (Code.b (Code.b c11))))))]
def st11 (l : Lad) (inp : List Bool) (st : Sta) : St := sp 88 [(0, .v (nfK k23 l)), (1, .v (nfK kbs inp)), (2, .v (nfK k26 st))] []
def keep11 : List Nat := [3, 4, 5, 6, 7, 8, 11, 12, 13, 14]
noncomputable def Pre11 (Q : Ex → St → Prop) (l : Lad) (inp : List Bool) (st : Sta) : Prop :=
  awpL tt E11 [] pre11 0 (st11 l inp st) fun ex s => match ex with
    | .normal => normK keep11 s (Q .normal)
    | .ret => normK [6, 7, 8] s (Q .ret)
    | .exit _ => False
/-- The objects of the scan's own frame. -/
def hp11 (l : Lad) (inp : List Bool) (st0 : Sta) (bases : List Int) (s : Sta) (on : Bool) (did : List Bool) : List Ob :=
  [.box 24 (leaves k23 l), .box 25 [.sl 4 .bool inp], .box 27 (leaves k26 st0), .box 27 [.nils, .nils, .nils], .box 25 [.nils], .box 32 [.int .i64 0], .box 40 [.sl 3 (.int .i64) bases], .box 27 (leaves k26 s), .box 25 [.own 10], .box 4 [.bool on], .row 4 .bool did]
def sl11 : List (Nat × V) := [(3, .v (.one (.ptr 0 0))), (4, .v (.one (.ptr 1 0))), (5, .v (.one (.ptr 2 0))), (6, .v (.one (.ptr 3 0))), (7, .v (.one (.ptr 4 0))), (8, .v (.one (.ptr 5 0))), (11, .v (.one (.ptr 6 0))), (12, .v (.one (.ptr 7 0))), (13, .v (.one (.ptr 8 0))), (14, .v (.one (.ptr 9 0)))]
/-- rungs, called with the whole heap. -/
def Inl26 (Q : List V1 → List Ob → Prop) (u : List Value) (l : Lad) (inp : List Bool) (st0 : Sta) (bases : List Int) (s : Sta) (did : List Bool) : Prop :=
  afun tt [] [] Try.f26 [nfK k23 l, .one (.ptr 9 0)] (hp11 l inp st0 bases s false did ++ [.frame u (spl 88 0 (sl11 ++ [(61, .v (nfK k23 l))]))]) Q
/-! the iterator -/
noncomputable abbrev c41 : Code := Func.code Try.f41
noncomputable def lp41 : Code := Code.a (Code.a (Code.b c41))           -- the loop's body
noncomputable def x41 : Code := Code.a lp41
noncomputable def b41 : Code := Code.a (Code.b lp41)                    -- what the block holds
noncomputable def r41 : Code := Code.a b41
noncomputable def y41 : Code := Code.a (Code.b b41)                     -- the round, its answer
noncomputable def t41 : Code := Code.b (Code.b b41)
noncomputable def ops41 : Array Oper := match Code.a y41 with | .region _ ops _ => ops | _ => #[]
/-- Only some temporaries and objects stay. -/
def dropK (keep L : List Nat) (s : St) (R : St → Prop) : Prop :=
  ifK (nodupB L) (someK (renHeap L s.heap L) fun h' => stK ⟨(keepFrom keep 0 s.slots).map (mapV (renL L)), h'⟩ R)
def base41 (u : List Value) (g l' : Nat) (oD oL : Obj) (l : Lad) (inp : List Bool) (st0 : Sta) (bases : List Int) (s : Sta) (on : Bool) (did : List Bool) : List Ob :=
  hp11 l inp st0 bases s on did ++ [.box 24 (leaves k23 l), .box 64 [.ptr 9 0], .frame u (spl 88 0 (sl11 ++ [(62, .v (.one (.clo 41 [.id 11, .id 12])))])), .raw g oD, .raw l' oL]
def st41 (u : List Value) (g l' : Nat) (oD oL : Obj) (l : Lad) (inp : List Bool) (st0 : Sta) (bases : List Int) (s : Sta) (on : Bool) (did : List Bool) (i : Int) : St :=
  sp 34 [(0, .v (.one (.yld l'))), (1, .v (.one (.ptr 11 0))), (2, .v (.one (.ptr 12 0))), (4, .v (.one (.int .i64 i)))] (base41 u g l' oD oL l inp st0 bases s on did)
def L16 : List Nat := [0, 1, 2, 3, 4, 5, 6, 7, 8, 9, 10, 11, 12, 13, 14, 15]
def L17 : List Nat := [0, 1, 2, 3, 4, 5, 6, 7, 8, 9, 10, 11, 12, 13, 14, 15, 16]
noncomputable def Head41 (Q : Ex → St → Prop) (u : List Value) (g l' : Nat) (oD oL : Obj) (l : Lad) (inp : List Bool) (st0 : Sta) (bases : List Int) (s : Sta) (on : Bool) (did : List Bool) (i : Int) : Prop :=
  awp tt E41 [] x41 0 (st41 u g l' oD oL l inp st0 bases s on did i) fun ex s => match ex with
    | .normal => awp tt E41 [] r41 1 s fun ex s => match ex with
      | .normal => opsK tt E41 ops41.toList (ops41.toList.take 3) s fun s => dropK [0, 1, 2, 4, 5, 16, 17, 18] L17 s (Q .normal)
      | _ => False
    | .exit n => dropK [0, 1, 2, 4] L16 s (Q (.exit n))
    | .ret => False
/-- The iterator's frame at the call of yield. -/
def sy41 (l' : Nat) (r : Rung) (i : Int) : List (Nat × V) := [(0, .v (.one (.yld l'))), (1, .v (.one (.ptr 11 0))), (2, .v (.one (.ptr 12 0))), (4, .v (.one (.int .i64 i))), (5, .v (.one (.ptr 16 0))), (16, .v (.one (.yld l'))), (17, .v (.one (.int .i64 i))), (18, .v (nfK k45 r))]
def sty (u : List Value) (g l' : Nat) (oD oL : Obj) (l : Lad) (inp : List Bool) (st0 : Sta) (bases : List Int) (s : Sta) (on : Bool) (did : List Bool) (r : Rung) (i : Int) : St :=
  sp 34 (sy41 l' r i) (base41 u g l' oD oL l inp st0 bases s on did ++ [.box 46 (leaves k45 r)])
noncomputable abbrev rf11 : Code := Code.a (Code.b (Code.a z11))
noncomputable def as11 : Code := match rf11 with | .rangeFunc _ _ a _ => a | _ => .skip
noncomputable def bd11 : Code := match rf11 with | .rangeFunc _ _ _ b => b | _ => .skip
noncomputable def Round11 (R0 : St → Prop) (R1 : St → Prop) (tm : List Value) (oR oB oDn : Obj) (u : List Value) (g l' : Nat) (oD : Obj) (l : Lad) (inp : List Bool) (st0 : Sta) (bases : List Int) (s : Sta) (on : Bool) (did : List Bool) (r : Rung) (i : Int) : Prop :=
  roundK tt E11 [] as11 bd11 15 l' oR oB oDn 17 tm L17
    (sp 88 (sl11 ++ [(62, .v (.one (.clo 41 [.id 11, .id 12]))), (63, .v (.one (.int .i64 i))), (64, .v (nfK k45 r))]) (base41 u g l' oD oR l inp st0 bases s on did ++ [.box 46 (leaves k45 r), .frame tm (spl 34 0 (sy41 l' r i))])) R0 R1
def stz (u : List Value) (g l' : Nat) (oD oL : Obj) (l : Lad) (inp : List Bool) (st0 : Sta) (bases : List Int) (s : Sta) (on : Bool) (did : List Bool) (r : Rung) (i : Int) (b : Bool) : St :=
  sp 34 (sy41 l' r i ++ [(19, .v (.one (.bool b)))]) (base41 u g l' oD oL l inp st0 bases s on did ++ [.box 46 (leaves k45 r)])
noncomputable def Tail41 (Q : Ex → St → Prop) (u : List Value) (g l' : Nat) (oD oL : Obj) (l : Lad) (inp : List Bool) (st0 : Sta) (bases : List Int) (s : Sta) (on : Bool) (did : List Bool) (r : Rung) (i : Int) : Prop :=
  opsK tt E41 ops41.toList (ops41.toList.drop 4) (stz u g l' oD oL l inp st0 bases s on did r i true) fun s => awp tt E41 [] (Code.b y41) 1 s fun ex s => match ex with
    | .normal => awp tt E41 [] t41 1 s fun ex s => match ex with
      | .normal => dropK [0, 1, 2, 4] L16 s (Q .normal)
      | _ => False
    | _ => False
/-- Behind the loop. -/
noncomputable def post11 : Code := Code.b z11
def stp (u : List Value) (g l' : Nat) (oD oL : Obj) (l : Lad) (inp : List Bool) (st0 : Sta) (bases : List Int) (s : Sta) (on : Bool) (did : List Bool) : St :=
  sp 88 (sl11 ++ [(62, .v (.one (.clo 41 [.id 11, .id 12])))]) (base41 u g l' oD oL l inp st0 bases s on did)
noncomputable def Post11 (Q : Ex → St → Prop) (u : List Value) (g l' : Nat) (oD oL : Obj) (l : Lad) (inp : List Bool) (st0 : Sta) (bases : List Int) (s : Sta) (on : Bool) (did : List Bool) : Prop :=
  awp tt E11 [] post11 0 (stp u g l' oD oL l inp st0 bases s on did) fun ex s => match ex with
    | .ret => dropK [6, 7, 8] L16 s (Q .ret)
    | _ => False
end Go.AM
namespace Go.AM
open Go.Proofs
-- f16 "busbar/pathmodel.SlotBases" ['24'] -> ['40']
def A16 : Ann := [(0, [3, 12, 13, 14], [3], [2])]
def E16 : Env := [(31, sp31)]
def I16 (p0 : (k23 : K).ty) : List V1 := [nfK k23 p0]
noncomputable def L16_0 : Code := Code.a (Code.a (Code.b (Code.a (Code.b (Code.b (Func.code Try.f16))))))
def S16_0 (l12 : List (K.ty k45)) (x13 : Int) (x14 : Int) (w0 : List (K.ty ((3 : TypeId), K.int IntKind.i64).snd)) : St := sp (31 : Nat) [((3 : Nat), V.v (V1.one (Lf.own (nat_lit 0)))), ((12 : Nat), V.v (V1.one (Lf.sl (46 : TypeId) k45 l12))), ((13 : Nat), V.v (V1.one (Lf.int IntKind.i64 x13))), ((14 : Nat), V.v (V1.one (Lf.int IntKind.i64 x14)))] [Ob.row (3 : TypeId) (K.int IntKind.i64) w0]
def X16_0_0 (w0 : List (K.ty (K.int IntKind.i64))) : St := sp (31 : Nat) [((3 : Nat), V.v (V1.one (Lf.own (nat_lit 0))))] [Ob.row (3 : TypeId) (K.int IntKind.i64) w0]
def t16_0 (again : List (K.ty k45) → Int → Int → List (K.ty ((3 : TypeId), K.int IntKind.i64).snd) → Prop) (R0 : List (K.ty (K.int IntKind.i64)) → Prop) (l12 : List (K.ty k45)) (x13 : Int) (x14 : Int) (w0 : List (K.ty ((3 : TypeId), K.int IntKind.i64).snd)) : Prop :=
  brP (decide (x14 < x13)) (bound x14 (List.length l12) ∧ bound x14 (List.length w0) ∧ (List.length (getE k45 l12 x14).snd.fst ≤ (4611686018427387904 : Nat) ∧ room tt (3 : TypeId) (List.length w0 + List.length (List.set (List.replicate (1 : Nat) (K.dflt (K.int IntKind.i64))) (0 : Nat) (IntKind.wrap IntKind.i64 (getE (K.int IntKind.i64) w0 x14 + (↑(List.countP isEdge (getE k45 l12 x14).snd.fst) : Int))))) ∧ again l12 x13 (IntKind.wrap IntKind.i64 (x14 + (1 : Int))) (w0 ++ List.set (List.replicate (1 : Nat) (K.dflt (K.int IntKind.i64))) (0 : Nat) (IntKind.wrap IntKind.i64 (getE (K.int IntKind.i64) w0 x14 + (↑(List.countP isEdge (getE k45 l12 x14).snd.fst) : Int))))) ∧ (List.length (getE k45 l12 x14).snd.fst ≤ (4611686018427387904 : Nat) ∧ room tt (3 : TypeId) (List.length w0 + List.length (List.set (List.replicate (1 : Nat) (K.dflt (K.int IntKind.i64))) (0 : Nat) (IntKind.wrap IntKind.i64 (getE (K.int IntKind.i64) w0 x14 + (↑(List.countP isEdge (getE k45 l12 x14).snd.fst) : Int))))) ∧ again l12 x13 (IntKind.wrap IntKind.i64 (x14 + (1 : Int))) (w0 ++ List.set (List.replicate (1 : Nat) (K.dflt (K.int IntKind.i64))) (0 : Nat) (IntKind.wrap IntKind.i64 (getE (K.int IntKind.i64) w0 x14 + (↑(List.countP isEdge (getE k45 l12 x14).snd.fst) : Int))))) ∧ List.length (getE k45 l12 x14).snd.fst ≤ (4611686018427387904 : Nat) ∧ room tt (3 : TypeId) (List.length w0 + List.length (List.set (List.replicate (1 : Nat) (K.dflt (K.int IntKind.i64))) (0 : Nat) (IntKind.wrap IntKind.i64 (getE (K.int IntKind.i64) w0 x14 + (↑(List.countP isEdge (getE k45 l12 x14).snd.fst) : Int))))) ∧ again l12 x13 (IntKind.wrap IntKind.i64 (x14 + (1 : Int))) (w0 ++ List.set (List.replicate (1 : Nat) (K.dflt (K.int IntKind.i64))) (0 : Nat) (IntKind.wrap IntKind.i64 (getE (K.int IntKind.i64) w0 x14 + (↑(List.countP isEdge (getE k45 l12 x14).snd.fst) : Int))))) (R0 w0)
theorem t16_0_mono {again : List (K.ty k45) → Int → Int → List (K.ty ((3 : TypeId), K.int IntKind.i64).snd) → Prop} {R0 : List (K.ty (K.int IntKind.i64)) → Prop} {again' : List (K.ty k45) → Int → Int → List (K.ty ((3 : TypeId), K.int IntKind.i64).snd) → Prop} {R0' : List (K.ty (K.int IntKind.i64)) → Prop} (ha : ∀ l12 x13 x14 w0, again l12 x13 x14 w0 → again' l12 x13 x14 w0) (hr0 : ∀ w0, R0 w0 → R0' w0) (l12 : List (K.ty k45)) (x13 : Int) (x14 : Int) (w0 : List (K.ty ((3 : TypeId), K.int IntKind.i64).snd)) :
    t16_0 again R0 l12 x13 x14 w0 → t16_0 again' R0' l12 x13 x14 w0 :=
  brM (andM (id) (andM (id) (andM (andM (id) (andM (id) (ha _ _ _ _))) (andM (andM (id) (andM (id) (ha _ _ _ _))) (andM (id) (andM (id) (ha _ _ _ _))))))) (hr0 _)
theorem t16_0_eq (n : Nat) (Q : Ex → St → Prop) (l12 : List (K.ty k45)) (x13 : Int) (x14 : Int) (w0 : List (K.ty ((3 : TypeId), K.int IntKind.i64).snd)) :
    t16_0 (fun l12 x13 x14 w0 => loopP (awp tt E16 A16 L16_0 0) ([(3 : Nat), (12 : Nat), (13 : Nat), (14 : Nat)], [(3 : Nat)], [(2 : Nat)]) n (S16_0 l12 x13 x14 w0) Q) (fun w0 => Q (Ex.exit (nat_lit 0)) (X16_0_0 w0)) l12 x13 x14 w0 = (loopP (awp tt E16 A16 L16_0 0) ([(3 : Nat), (12 : Nat), (13 : Nat), (14 : Nat)], [(3 : Nat)], [(2 : Nat)]) (n + 1) (S16_0 l12 x13 x14 w0) Q) := by kernel_rfl
def G16_0 (R0 : List (K.ty (K.int IntKind.i64)) → Prop) : Nat → List (K.ty k45) → Int → Int → List (K.ty ((3 : TypeId), K.int IntKind.i64).snd) → Prop
  | 0, _, _, _, _ => False
  | n + 1, l12, x13, x14, w0 => t16_0 (G16_0 R0 n) R0 l12 x13 x14 w0
theorem T16_0 {R0 : List (K.ty (K.int IntKind.i64)) → Prop} (Q : Ex → St → Prop) (hr0 : ∀ w0, R0 w0 → Of (Q (Ex.exit (nat_lit 0)) (X16_0_0 w0))) : ∀ (n : Nat) (l12 : List (K.ty k45)) (x13 : Int) (x14 : Int) (w0 : List (K.ty ((3 : TypeId), K.int IntKind.i64).snd)), G16_0 R0 n l12 x13 x14 w0 → Of (loopP (awp tt E16 A16 L16_0 0) ([(3 : Nat), (12 : Nat), (13 : Nat), (14 : Nat)], [(3 : Nat)], [(2 : Nat)]) n (S16_0 l12 x13 x14 w0) Q) := by
  intro n
  induction n with
  | zero => intro l12 x13 x14 w0 h; exact h.elim
  | succ n ih =>
    intro l12 x13 x14 w0 h
    exact kcO (t16_0_eq n Q l12 x13 x14 w0) (t16_0_mono (fun _ _ _ _ h => (ih _ _ _ _ h).out) (fun _ h => (hr0 _ h).out) l12 x13 x14 w0 h)
def t16 (Q : List V1 → List Ob → Prop) (lp0 : K.ty k23 → Prop) (p0 : K.ty k23) : Prop :=
  ((0 : Int) ≤ (1 : Int) ∧ (1 : Int) ≤ IntKind.wrap IntKind.i64 ((↑(List.length p0.snd.snd.snd) : Int) + (1 : Int)) ∧ IntKind.wrap IntKind.i64 ((↑(List.length p0.snd.snd.snd) : Int) + (1 : Int)) ≤ (17592186044416 : Int)) ∧ room tt (3 : TypeId) (Int.toNat (IntKind.wrap IntKind.i64 ((↑(List.length p0.snd.snd.snd) : Int) + (1 : Int)))) ∧ lp0 p0
theorem t16_mono {Q : List V1 → List Ob → Prop} {Q' : List V1 → List Ob → Prop} {lp0 : K.ty k23 → Prop} {lp0' : K.ty k23 → Prop} (hq : ∀ r h, Q r h → Q' r h) (hlp0 : ∀ p0, lp0 p0 → lp0' p0) (p0 : K.ty k23) :
    t16 Q lp0 p0 → t16 Q' lp0' p0 :=
  andM (andM (id) (andM (id) (id))) (andM (id) (hlp0 _))
theorem t16_eq (Q : List V1 → List Ob → Prop) (p0 : K.ty k23) :
    t16 Q (fun p0 => ∃ m, loopP (awp tt E16 A16 L16_0 0) ([(3 : Nat), (12 : Nat), (13 : Nat), (14 : Nat)], [(3 : Nat)], [(2 : Nat)]) m (S16_0 (p0.snd.snd.snd) ((↑(List.length p0.snd.snd.snd) : Int)) ((0 : Int)) (List.replicate (Int.toNat (1 : Int)) (K.dflt (K.int IntKind.i64)))) (blkC (0 : Nat) (seqC (awp tt E16 A16 (Code.b (Code.b (Code.b (Func.code Try.f16)))) (0 : Nat)) (topC tt Try.f16 0 Q)))) p0 = (afun tt E16 A16 Try.f16 (I16 p0) [] Q) := by kernel_rfl
def t16c0x0 (Q : List V1 → List Ob → Prop) (p0 : K.ty k23) (w0e1 : List (K.ty (K.int IntKind.i64))) : Prop :=
  Q [V1.one (Lf.own (0 : Nat))] [Ob.row (3 : TypeId) (K.int IntKind.i64) w0e1]
theorem t16c0x0_mono {Q : List V1 → List Ob → Prop} {Q' : List V1 → List Ob → Prop} (hq : ∀ r h, Q r h → Q' r h) (p0 : K.ty k23) (w0e1 : List (K.ty (K.int IntKind.i64))) :
    t16c0x0 Q p0 w0e1 → t16c0x0 Q' p0 w0e1 :=
  hq _ _
theorem t16c0x0_eq (Q : List V1 → List Ob → Prop) (p0 : K.ty k23) (w0e1 : List (K.ty (K.int IntKind.i64))) :
    t16c0x0 Q p0 w0e1 = ((blkC (0 : Nat) (seqC (awp tt E16 A16 (Code.b (Code.b (Code.b (Func.code Try.f16)))) (0 : Nat)) (topC tt Try.f16 0 Q))) (Ex.exit (nat_lit 0)) (X16_0_0 w0e1)) := by kernel_rfl
def H16 (Q : List V1 → List Ob → Prop) (p0 : K.ty k23) : Prop := t16 Q (fun p0 => ∃ m, G16_0 (fun w0e1 => t16c0x0 Q p0 w0e1) m (p0.snd.snd.snd) ((↑(List.length p0.snd.snd.snd) : Int)) ((0 : Int)) (List.replicate (Int.toNat (1 : Int)) (K.dflt (K.int IntKind.i64)))) p0
theorem ok16 (Q : List V1 → List Ob → Prop) (p0 : K.ty k23) (h : H16 Q p0) : Of (afun tt E16 A16 Try.f16 (I16 p0) [] Q) :=
  kcO (t16_eq Q p0) (t16_mono (fun _ _ h => h) (fun p0 ⟨m, h⟩ => ⟨m, (T16_0 _ (fun w0e1 h => kcO (t16c0x0_eq _ _ _) (t16c0x0_mono (fun _ _ h => h) _ _ h)) m _ _ _ _ h).out⟩) p0 h)
theorem env16 : EnvOk Try.prog E16 := .cons spec31 (by kernel_rfl) <| .nil
theorem basesFrom_len : ∀ (l : List Rung) (b : Int), (basesFrom b l).length = l.length + 1
  | [], _ => rfl
  | r :: l, b => by simp only [basesFrom, List.length_cons, basesFrom_len l]
/-- An int of a list. -/
def bAt (l : List Int) (i : Int) : Int := getE ki l i
theorem basesFrom_step : ∀ (l : List Rung) (b : Int) (i : Nat), i < l.length → bAt (basesFrom b l) (i + 1 : Nat) = bAt (basesFrom b l) i + edges (getE k45 l i)
  | [], _, i, h => by simp at h
  | r :: l, b, 0, _ => by
    cases l <;> simp [basesFrom, bAt, getE, List.getD]
  | r :: l, b, i + 1, h => by
    have := basesFrom_step l (b + edges r) i (by simpa using h)
    simp only [bAt, getE, Int.toNat_natCast, basesFrom, List.getD_cons_succ] at this ⊢
    exact this
theorem basesFrom_zero (l : List Rung) (b : Int) : bAt (basesFrom b l) (0 : Nat) = b := by cases l <;> rfl
theorem edges_bound {r : Rung} (h : r.contacts.length ≤ 1000000) : 0 ≤ edges r ∧ edges r ≤ 1000000 := by
  have := List.countP_le_length (p := isEdge) (l := r.contacts)
  unfold edges
  omega
theorem getE_mem45 {l : List Rung} {i : Nat} (h : i < l.length) : getE k45 l i ∈ l := by
  have : getE k45 l i = l[i] := by simp [getE, List.getD, h]
  rw [this]; exact List.getElem_mem h
theorem bases_bound {l : List Rung} (hl : l.length ≤ 1000) (hc : ∀ r ∈ l, (Rung.contacts r).length ≤ 1000000) : ∀ i : Nat, i ≤ l.length → 0 ≤ bAt (basesFrom 0 l) i ∧ bAt (basesFrom 0 l) i ≤ i * 1000000 := by
  intro i
  induction i with
  | zero => intro _; rw [basesFrom_zero]; omega
  | succ i ih =>
    intro hi
    rw [basesFrom_step l 0 i (by omega)]
    have h1 := ih (by omega)
    have h2 := edges_bound (hc _ (getE_mem45 (show i < l.length by omega)))
    omega
theorem take_getE {l : List Int} {i : Nat} (h : i < l.length) : l.take (i + 1) = l.take i ++ [bAt l i] := by
  rw [List.take_succ_eq_append_getElem h]; simp [bAt, getE, List.getD, h]
theorem room3 {n : Nat} (h : n ≤ 1000000) : room tt 3 n := by
  show n * 8 ≤ 140737488355328; omega
theorem loop16 (rs : List Rung) (hl : rs.length ≤ 1000) (hc : ∀ r ∈ rs, (Rung.contacts r).length ≤ 1000000) (R0 : List Int → Prop) (h0 : R0 (basesFrom 0 rs)) : ∀ n (i : Nat), rs.length - i < n → i ≤ rs.length →
    G16_0 R0 n rs rs.length i ((basesFrom 0 rs).take (i + 1)) := by
  intro n
  induction n with
  | zero => intro i h; omega
  | succ n ih =>
    intro i hn hi
    have hB := basesFrom_len rs 0
    refine brP_intro (fun c => ?_) (fun c => ?_)
    · have c : i < rs.length := by simpa using c
      have hlt : ((basesFrom 0 rs).take (i + 1)).length = i + 1 := by rw [List.length_take]; omega
      have hg : getE (.int .i64) ((basesFrom 0 rs).take (i + 1)) i = bAt (basesFrom 0 rs) i := by
        simp only [bAt, getE, Int.toNat_natCast, List.getD]
        rw [List.getElem?_take, if_pos (by omega)]
      have hb := bases_bound hl hc i (by omega)
      have he := edges_bound (hc _ (getE_mem45 c))
      have hs := basesFrom_step rs 0 i c
      have hw : IntKind.i64.wrap (bAt (basesFrom 0 rs) i + edges (getE k45 rs i)) = bAt (basesFrom 0 rs) (i + 1 : Nat) := by
        rw [hs]
        exact wrap_in (by omega) (by omega)
      have key : List.length (getE k45 rs i).snd.fst ≤ (4611686018427387904 : Nat) ∧ room tt (3 : TypeId) (List.length ((basesFrom 0 rs).take (i + 1)) + List.length (List.set (List.replicate (1 : Nat) (K.dflt (K.int IntKind.i64))) (0 : Nat) (IntKind.wrap IntKind.i64 (getE (K.int IntKind.i64) ((basesFrom 0 rs).take (i + 1)) i + (↑(List.countP isEdge (getE k45 rs i).snd.fst) : Int))))) ∧
          G16_0 R0 n rs rs.length (IntKind.wrap IntKind.i64 (i + (1 : Int))) ((basesFrom 0 rs).take (i + 1) ++ List.set (List.replicate (1 : Nat) (K.dflt (K.int IntKind.i64))) (0 : Nat) (IntKind.wrap IntKind.i64 (getE (K.int IntKind.i64) ((basesFrom 0 rs).take (i + 1)) i + (↑(List.countP isEdge (getE k45 rs i).snd.fst) : Int)))) := by
        refine ⟨Nat.le_trans (hc _ (getE_mem45 c)) (by omega), ?_, ?_⟩
        · rw [hlt, List.length_set, List.length_replicate]; exact room3 (by omega)
        · have e1 : (List.set (List.replicate (1 : Nat) (K.dflt (K.int IntKind.i64))) (0 : Nat) (IntKind.wrap IntKind.i64 (getE (K.int IntKind.i64) ((basesFrom 0 rs).take (i + 1)) i + (↑(List.countP isEdge (getE k45 rs i).snd.fst) : Int)))) = [bAt (basesFrom 0 rs) (i + 1 : Nat)] := by
            show [_] = _
            rw [← hw, ← hg]
            rfl
          rw [e1, ← take_getE (by omega), wrap_in (by omega) (by omega)]
          exact ih (i + 1) (by omega) (by omega)
      exact ⟨⟨by omega, by omega⟩, ⟨by omega, by rw [hlt]; omega⟩, key, key, key⟩
    · have c : ¬ i < rs.length := by simpa using c
      rw [List.take_of_length_le (by omega)]
      exact h0
theorem spec16 : SpecOk Try.prog 16 sp16 := S1.okS tt_ok mixed [ksi] env16 Try.func16 fun (l : Lad) Q h => ok16 _ l <| by
  obtain ⟨⟨hl, hc⟩, h⟩ := h
  have hl' : (l.snd.snd.snd).length ≤ 1000 := hl
  have hw : IntKind.i64.wrap ((l.snd.snd.snd.length : Int) + 1) = (l.snd.snd.snd.length : Int) + 1 := wrap_in (by omega) (by omega)
  unfold H16 t16
  rw [hw]
  refine ⟨⟨by omega, by omega, by omega⟩, room3 (by omega), l.snd.snd.snd.length + 1, ?_⟩
  have := loop16 (Lad.rungs l) hl hc (fun w => SQ [ksi] Q [.one (.own 0)] [.row 3 (.int .i64) w]) h ((Lad.rungs l).length + 1) 0 (by omega) (by omega)
  have e : (basesFrom 0 (Lad.rungs l)).take (0 + 1) = [0] := by
    cases (Lad.rungs l) <;> rfl
  rw [e] at this
  exact this
end Go.AM
namespace Go.AM
open Go.Proofs
def A54 : Ann := []
def E54 : Env := []
def I54 (r x : Rung) : List V1 := [nfK k45 r, .one (.rp k45 x 0)]
def t54 (Q : List V1 → List Ob → Prop) (r : Rung) (x : Rung) : Prop :=
  Q [V1.one (Lf.bool (ByteArray.toList r.fst == ByteArray.toList x.fst))] []
theorem t54_mono {Q : List V1 → List Ob → Prop} {Q' : List V1 → List Ob → Prop} (hq : ∀ r h, Q r h → Q' r h) (r : Rung) (x : Rung) :
    t54 Q r x → t54 Q' r x :=
  hq _ _
theorem t54_eq (Q : List V1 → List Ob → Prop) (r : Rung) (x : Rung) :
    t54 Q r x = (afun tt E54 A54 Try.f54 (I54 r x) [] Q) := by kernel_rfl
def H54 (Q : List V1 → List Ob → Prop) (r : Rung) (x : Rung) : Prop := t54 Q r x
theorem ok54 (Q : List V1 → List Ob → Prop) (r : Rung) (x : Rung) (h : H54 Q r x) : Of (afun tt E54 A54 Try.f54 (I54 r x) [] Q) :=
  kcO (t54_eq Q r x) (t54_mono (fun _ _ h => h) r x h)
def t38 (Q : List V1 → List Ob → Prop) (r : Rung) (x : Rung) : Prop :=
  Q [V1.one (Lf.bool (ByteArray.toList r.fst == ByteArray.toList x.snd.snd.snd))] []
theorem t38_mono {Q : List V1 → List Ob → Prop} {Q' : List V1 → List Ob → Prop} (hq : ∀ r h, Q r h → Q' r h) (r : Rung) (x : Rung) :
    t38 Q r x → t38 Q' r x :=
  hq _ _
theorem t38_eq (Q : List V1 → List Ob → Prop) (r : Rung) (x : Rung) :
    t38 Q r x = (afun tt E54 A54 Try.f38 (I54 r x) [] Q) := by kernel_rfl
def H38 (Q : List V1 → List Ob → Prop) (r : Rung) (x : Rung) : Prop := t38 Q r x
theorem ok38 (Q : List V1 → List Ob → Prop) (r : Rung) (x : Rung) (h : H38 Q r x) : Of (afun tt E54 A54 Try.f38 (I54 r x) [] Q) :=
  kcO (t38_eq Q r x) (t38_mono (fun _ _ h => h) r x h)
def I57 (r : Rung) (l : Lad) (at_ : Int) : List V1 := [nfK k45 r, .one (.rp k23 l 0), .one (.rp ki at_ 0)]
def t57 (Q : List V1 → List Ob → Prop) (r : Rung) (l : Lad) (at_ : Int) : Prop :=
  bound at_ (List.length l.snd.snd.snd) ∧ Q [V1.one (Lf.bool (ByteArray.toList r.fst == ByteArray.toList (getE k45 l.snd.snd.snd at_).snd.snd.snd))] []
theorem t57_mono {Q : List V1 → List Ob → Prop} {Q' : List V1 → List Ob → Prop} (hq : ∀ r h, Q r h → Q' r h) (r : Rung) (l : Lad) (at_ : Int) :
    t57 Q r l at_ → t57 Q' r l at_ :=
  andM (id) (hq _ _)
theorem t57_eq (Q : List V1 → List Ob → Prop) (r : Rung) (l : Lad) (at_ : Int) :
    t57 Q r l at_ = (afun tt E54 A54 Try.f57 (I57 r l at_) [] Q) := by kernel_rfl
def H57 (Q : List V1 → List Ob → Prop) (r : Rung) (l : Lad) (at_ : Int) : Prop := t57 Q r l at_
theorem ok57 (Q : List V1 → List Ob → Prop) (r : Rung) (l : Lad) (at_ : Int) (h : H57 Q r l at_) : Of (afun tt E54 A54 Try.f57 (I57 r l at_) [] Q) :=
  kcO (t57_eq Q r l at_) (t57_mono (fun _ _ h => h) r l at_ h)
theorem env54 : EnvOk Try.prog E54 := .nil
theorem atK_iff {k k' : K} {x : k.ty} {Q : k'.ty → Prop} (h : atK k x k' Q) : ∃ e : k = k', Q (e ▸ x) := by
  unfold atK at h
  split at h
  · rename_i e; exact ⟨e, h⟩
  · exact h.elim
theorem spec54 : SpecOk Try.prog 54 sp54 := by
  refine (afun_sound tt_ok env54 mixed (A := A54) Try.func54).data2 fun args hp Q hq => ?_
  unfold sp54 at hq
  split at hq
  · rename_i v k x
    obtain ⟨r, hr, hq⟩ := dK_iff hq
    obtain ⟨e, hq⟩ := atK_iff hq
    subst e
    exact ⟨rfl, [nfK k45 r, .one (.rp k45 x 0)], ⟨.inr ⟨k45, r, hr.1, hr.2, rfl⟩, .inl rfl, trivial⟩, (ok54 Q r x (by show Q _ _; rw [strEq]; exact hq)).out⟩
  · exact hq.elim
theorem spec38 : SpecOk Try.prog 38 sp38 := by
  refine (afun_sound tt_ok env54 mixed (A := A54) Try.func38).data2 fun args hp Q hq => ?_
  unfold sp38 at hq
  split at hq
  · rename_i v k x
    obtain ⟨r, hr, hq⟩ := dK_iff hq
    obtain ⟨e, hq⟩ := atK_iff hq
    subst e
    exact ⟨rfl, [nfK k45 r, .one (.rp k45 x 0)], ⟨.inr ⟨k45, r, hr.1, hr.2, rfl⟩, .inl rfl, trivial⟩, (ok38 Q r x (by show Q _ _; rw [strEq]; exact hq)).out⟩
  · exact hq.elim
theorem spec57 : SpecOk Try.prog 57 sp57 := by
  refine (afun_sound tt_ok env54 mixed (A := A54) Try.func57).data2 fun args hp Q hq => ?_
  unfold sp57 at hq
  split at hq
  · rename_i v k x k2 x2
    obtain ⟨r, hr, hq⟩ := dK_iff hq
    obtain ⟨e, hq⟩ := atK_iff hq
    subst e
    obtain ⟨e, hq⟩ := atK_iff hq
    subst e
    exact ⟨rfl, [nfK k45 r, .one (.rp k23 x 0), .one (.rp ki x2 0)], ⟨.inr ⟨k45, r, hr.1, hr.2, rfl⟩, .inl rfl, .inl rfl, trivial⟩, (ok57 Q r x x2 ⟨hq.1, by rw [strEq]; exact hq.2⟩).out⟩
  · exact hq.elim
end Go.AM
