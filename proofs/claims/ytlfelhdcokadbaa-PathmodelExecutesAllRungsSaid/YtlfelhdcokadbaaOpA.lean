/- The abstract machine: what changes memory, as steps of the relation. Conditions: none. -/
import Derived.Test.YtlfelhdcokadbaaOpP
set_option linter.all false
namespace Go.AM
open Go.RowKit
section
variable {P : Program} {T : TT} {E : Env}
/-- What must stay; the way from the start. -/
structure Fr (B : Nat → Prop) (w0 w : World) : Prop where
  os : w.os = w0.os
  tape : w.tape = w0.tape
  output : w.output = w0.output
  size : w0.heap.size ≤ w.heap.size
  block : ∀ g, B g → w.heap[g]? = w0.heap[g]?
/-- A state of the abstract machine and a world, in a call that began at w0. -/
structure Rel (B Ok0 : Nat → Prop) (w0 w : World) (Ok : Nat → Prop) (β : List Value) (st : St) (tm : List Value) : Prop where
  s : RelS w Ok β st tm
  fr : Fr B w0 w
  wr : ∀ v g, v ∈ β → blkOf v = some g → ¬ B g
  new : ∀ g, Ok g → Ok0 g ∨ ¬ B g
  old : ∀ g, Ok0 g → Ok g
variable {w w' w0 : World} {B Ok0 Ok : Nat → Prop} {β : List Value} {st : St} {tm : List Value}
theorem RelS.stay (r : RelS w Ok β st tm) (hb : ∀ g, g < w.heap.size → Ok g → w'.heap[g]? = w.heap[g]?) : Stay w w' Ok Ok :=
  ⟨fun _ h => h, fun g o hg ho => by rw [hb g (r.h.okLt g hg) hg]; exact ho⟩
theorem get_append_some {l m : List Value} {i : Nat} {v : Value} (h : l[i]? = some v) : (l ++ m)[i]? = some v := by
  rw [List.getElem?_append_left (List.getElem?_eq_some_iff.1 h).1]; exact h
theorem get_append_new {l : List Value} {v u : Value} {i : Nat} (h : (l ++ [v])[i]? = some u) : l[i]? = some u ∨ (i = l.length ∧ u = v) := by
  rw [List.getElem?_append] at h
  split at h
  · exact .inl h
  · rename_i hi
    right
    have : i - l.length = 0 := by
      cases hk : i - l.length with
      | zero => rfl
      | succ k => rw [hk] at h; simp at h
    rw [this] at h
    simp at h
    exact ⟨by omega, h.symm⟩
/-- A new object. -/
theorem RelS.push (r : RelS w Ok β st tm) (hsz : w.heap.size ≤ w'.heap.size) (hb : ∀ g, g < w.heap.size → w'.heap[g]? = w.heap[g]?) {v : Value} {ob : Ob}
    (hv : ∀ g, blkOf v = some g → w.heap.size ≤ g ∧ g < w'.heap.size) (ho : RelO w' Ok (β ++ [v]) ob v) : RelS w' Ok (β ++ [v]) ⟨st.slots, st.heap ++ [ob]⟩ tm := by
  have hs := r.stay (w' := w') fun g hg _ => hb g hg
  have hm : ∀ (i : Nat) u, β[i]? = some u → (β ++ [v])[i]? = some u := fun i u h => get_append_some h
  refine ⟨⟨?_, ?_, ?_, ?_, ?_⟩, r.s.mono fun _ _ => RelV.mono hs hm⟩
  · refine All2.append (r.h.objs.mono_mem' fun o u hu hou => ?_) ⟨ho, trivial⟩
    exact RelO.mono hs hm (fun g hg => hb g (r.h.lt u g hu hg)) hou
  · intro i j x y g hi hj hx hy
    rcases get_append_new hi with hi' | ⟨hi', rfl⟩ <;> rcases get_append_new hj with hj' | ⟨hj', rfl⟩
    · exact r.h.dist i j x y g hi' hj' hx hy
    · have h1 := r.h.lt x g (List.mem_of_getElem? hi') hx
      have h2 := (hv g hy).1
      omega
    · have h1 := r.h.lt y g (List.mem_of_getElem? hj') hy
      have h2 := (hv g hx).1
      omega
    · omega
  · intro u g hu hg
    rcases List.mem_append.1 hu with hu | hu
    · exact Nat.lt_of_lt_of_le (r.h.lt u g hu hg) hsz
    · simp at hu; subst hu; exact (hv g hg).2
  · exact fun g hg => Nat.lt_of_lt_of_le (r.h.okLt g hg) hsz
  · intro u g hu hg
    rcases List.mem_append.1 hu with hu | hu
    · exact r.h.okNot u g hu hg
    · simp at hu; subst hu
      intro hok
      have := r.h.okLt g hok
      have := (hv g hg).1
      omega
/-- An object turns. -/
theorem RelS.turn (r : RelS w Ok β st tm) {id : Nat} {v v' : Value} (hid : β[id]? = some v) (hsz : w.heap.size ≤ w'.heap.size) (hb : ∀ g, g < w.heap.size → blkOf v ≠ some g → w'.heap[g]? = w.heap[g]?)
    (hv : ∀ g, blkOf v' = some g → (blkOf v = some g ∨ w.heap.size ≤ g) ∧ g < w'.heap.size) {f : Lf → Lf} (hu : f .undef = .undef) (hf : ∀ l u, RelL w Ok β l u → RelL w' Ok (β.set id v') (f l) u) {ob : Ob}
    (ho : RelO w' Ok (β.set id v') ob v') : RelS w' Ok (β.set id v') ⟨st.slots.map (mapV f), (st.heap.map (mapOb f)).set id ob⟩ tm := by
  have hmem : v ∈ β := List.mem_of_getElem? hid
  have hs := r.stay (w' := w') fun g hg hok => hb g hg fun h => r.h.okNot v g hmem h hok
  have hlt : id < β.length := (List.getElem?_eq_some_iff.1 hid).1
  refine ⟨⟨?_, ?_, ?_, ?_, ?_⟩, All2.map _ (r.s.mono fun _ _ => RelV.mapL f hu hf)⟩
  · -- place by place
    have hlen := r.h.objs.length
    refine All2.of_get (by simp [hlen]) fun i o u hi hui => ?_
    by_cases hii : i = id
    · subst hii
      have hl2 : i < st.heap.length := by omega
      rw [List.getElem?_set_self (by simpa using hl2)] at hi
      rw [List.getElem?_set_self hlt] at hui
      cases hi; cases hui
      exact ho
    · rw [get_set_ne hii] at hi hui
      rw [List.getElem?_map] at hi
      cases ho' : st.heap[i]? with
      | none => rw [ho'] at hi; cases hi
      | some o' =>
        rw [ho'] at hi
        cases hi
        obtain ⟨u', hu', hou⟩ := r.h.obj ho'
        rw [hui] at hu'
        cases hu'
        refine RelO.mapL f hu hf hs (fun g hg => hb g (r.h.lt u g (List.mem_of_getElem? hui) hg) fun h => ?_) hou
        exact hii (r.h.dist i id u v g hui hid hg h)
  · intro i j x y g hi hj hx hy
    have aux : ∀ i j x y, i = id → j ≠ id → (β.set id v')[i]? = some x → (β.set id v')[j]? = some y → blkOf x = some g → blkOf y = some g → False := by
      intro i j x y hii hjj hi hj hx hy
      subst hii
      rw [List.getElem?_set_self hlt] at hi
      cases hi
      rw [get_set_ne hjj] at hj
      rcases (hv g hx).1 with h | h
      · exact hjj (r.h.dist j i y v g hj hid hy h)
      · have := r.h.lt y g (List.mem_of_getElem? hj) hy
        omega
    by_cases hii : i = id <;> by_cases hjj : j = id
    · omega
    · exact (aux i j x y hii hjj hi hj hx hy).elim
    · exact (aux j i y x hjj hii hj hi hy hx).elim
    · rw [get_set_ne hii] at hi
      rw [get_set_ne hjj] at hj
      exact r.h.dist i j x y g hi hj hx hy
  · intro u g hu' hg
    rcases mem_set_of hu' with rfl | ⟨j, _, hj⟩
    · exact (hv g hg).2
    · exact Nat.lt_of_lt_of_le (r.h.lt u g (List.mem_of_getElem? hj) hg) hsz
  · exact fun g hg => Nat.lt_of_lt_of_le (r.h.okLt g hg) hsz
  · intro u g hu' hg
    rcases mem_set_of hu' with rfl | ⟨j, _, hj⟩
    · intro hok
      rcases (hv g hg).1 with h | h
      · exact r.h.okNot v g hmem h hok
      · have := r.h.okLt g hok
        omega
    · exact r.h.okNot u g (List.mem_of_getElem? hj) hg
theorem mapV_id (x : V) : mapV (fun l => l) x = x := by
  have h1 : ∀ y : V1, mapV1 (fun l => l) y = y := fun y => by cases y <;> simp [mapV1]
  cases x with
  | v y => simp [mapV, h1]
  | tup xs => simp only [mapV]; congr 1; rw [List.map_congr_left (g := fun y => y) (fun y _ => h1 y)]; simp
theorem mapOb_id (o : Ob) : mapOb (fun l => l) o = o := by
  have : ∀ cs : List V, cs.map (mapV fun l => l) = cs := fun cs => by rw [List.map_congr_left (g := fun x => x) (fun x _ => mapV_id x)]; simp
  cases o <;> simp [mapOb, this]
/-- An object turns in place: its value stays. -/
theorem RelS.same (r : RelS w Ok β st tm) {id : Nat} {v : Value} (hid : β[id]? = some v) (hsz : w.heap.size ≤ w'.heap.size) (hb : ∀ g, g < w.heap.size → blkOf v ≠ some g → w'.heap[g]? = w.heap[g]?)
    {ob : Ob} (ho : RelO w' Ok β ob v) : RelS w' Ok β ⟨st.slots, st.heap.set id ob⟩ tm := by
  have hset : β.set id v = β := by
    apply List.ext_getElem?
    intro i
    by_cases h : i = id
    · subst h; rw [List.getElem?_set_self (List.getElem?_eq_some_iff.1 hid).1, hid]
    · rw [get_set_ne h]
  have hmem : v ∈ β := List.mem_of_getElem? hid
  have hs := r.stay (w' := w') fun g hg hok => hb g hg fun h => r.h.okNot v g hmem h hok
  have := r.turn (w' := w') (v' := v) (f := fun l => l) hid hsz hb (fun g hg => ⟨.inl hg, Nat.lt_of_lt_of_le (r.h.lt v g hmem hg) hsz⟩) rfl (by rw [hset]; exact fun l u h => RelL.mono hs (fun _ _ h => h) h) (by rw [hset]; exact ho)
  rw [hset] at this
  have e1 : st.slots.map (mapV fun l => l) = st.slots := by rw [List.map_congr_left (g := fun x => x) (fun x _ => mapV_id x)]; simp
  have e2 : st.heap.map (mapOb fun l => l) = st.heap := by rw [List.map_congr_left (g := fun x => x) (fun x _ => mapOb_id x)]; simp
  rw [e1, e2] at this
  exact this
/-- References to a row go when it turns. -/
theorem killL_rel {id : Nat} {v v' : Value} (hid : β[id]? = some v) (hsl : ∃ a n c, v = .slice a n c) (hs : Stay w w' Ok Ok) : ∀ l u, RelL w Ok β l u → RelL w' Ok (β.set id v') (killL id l) u := by
  obtain ⟨a0, n0, c0, hsl⟩ := hsl
  have hne : ∀ i : Nat, i ≠ id → ∀ z : Value, β[i]? = some z → (β.set id v')[i]? = some z := fun i hi z hz => by rw [get_set_ne hi]; exact hz
  have hptr : ∀ n off u, RelPtr β n off u → RelPtr (β.set id v') n off u := fun n off u ⟨g, h1, h2⟩ => by
    refine ⟨g, hne n ?_ _ h1, h2⟩
    rintro rfl
    rw [hid] at h1; cases h1
    cases hsl
  intro x u hx
  cases x with
  | own i =>
    simp only [killL]
    split
    · exact hx.def1 (by simp)
    · rename_i hi
      exact ⟨hne i hi _ hx.1, hx.2⟩
  | ept i n sz off =>
    simp only [killL]
    split
    · exact hx.def1 (by simp)
    · rename_i hi
      obtain ⟨g, o, m, c, h1, h2⟩ := hx
      exact ⟨g, o, m, c, hne i hi _ h1, h2⟩
  | ptr i off => exact hptr _ _ _ hx
  | mp i =>
    obtain ⟨h1, g, h2⟩ := hx
    refine ⟨hne i ?_ _ h1, g, h2⟩
    rintro rfl
    rw [hid] at h1; cases h1
    rw [hsl] at h2; cases h2
  | clo f caps =>
    obtain ⟨vs, h1, h2⟩ := hx
    refine ⟨vs, h1, h2.mono fun c u hc => ?_⟩
    cases c with
    | id n => exact hptr _ _ _ hc
    | imm k x => exact RelRp.mono hs hc
  | sl e k l => exact RdS.mono (e := e) hs (fun _ _ => RdC.mono hs) hx
  | rp k x off => exact RelRp.mono hs hx
  | _ => exact hx

/-! ### with the way from the start -/
theorem Rel.push (r : Rel B Ok0 w0 w Ok β st tm) (hB : ∀ g, B g → g < w0.heap.size) (hsz : w.heap.size ≤ w'.heap.size) (hos : w'.os = w.os) (htp : w'.tape = w.tape) (hout : w'.output = w.output)
    (hb : ∀ g, g < w.heap.size → w'.heap[g]? = w.heap[g]?) {v : Value} {ob : Ob}
    (hv : ∀ g, blkOf v = some g → w.heap.size ≤ g ∧ g < w'.heap.size) (ho : RelO w' Ok (β ++ [v]) ob v) : Rel B Ok0 w0 w' Ok (β ++ [v]) ⟨st.slots, st.heap ++ [ob]⟩ tm := by
  refine ⟨r.s.push hsz hb hv ho, ⟨hos.trans r.fr.os, htp.trans r.fr.tape, hout.trans r.fr.output, Nat.le_trans r.fr.size hsz, fun g hg => ?_⟩, ?_, r.new, r.old⟩
  · rw [hb g (Nat.lt_of_lt_of_le (hB g hg) r.fr.size)]
    exact r.fr.block g hg
  · intro u g hu hg hBg
    rcases List.mem_append.1 hu with hu | hu
    · exact r.wr u g hu hg hBg
    · simp at hu; subst hu
      have h1 := (hv g hg).1
      have h2 := hB g hBg
      have h3 := r.fr.size
      omega
theorem Rel.turn (r : Rel B Ok0 w0 w Ok β st tm) (hB : ∀ g, B g → g < w0.heap.size) {id : Nat} {v v' : Value} (hid : β[id]? = some v) (hsz : w.heap.size ≤ w'.heap.size) (hos : w'.os = w.os) (htp : w'.tape = w.tape) (hout : w'.output = w.output)
    (hb : ∀ g, g < w.heap.size → blkOf v ≠ some g → w'.heap[g]? = w.heap[g]?)
    (hv : ∀ g, blkOf v' = some g → (blkOf v = some g ∨ w.heap.size ≤ g) ∧ g < w'.heap.size) {st' : St} (hs : RelS w' Ok (β.set id v') st' tm) : Rel B Ok0 w0 w' Ok (β.set id v') st' tm := by
  have hmem : v ∈ β := List.mem_of_getElem? hid
  refine ⟨hs, ⟨hos.trans r.fr.os, htp.trans r.fr.tape, hout.trans r.fr.output, Nat.le_trans r.fr.size hsz, fun g hg => ?_⟩, ?_, r.new, r.old⟩
  · rw [hb g (Nat.lt_of_lt_of_le (hB g hg) r.fr.size) fun h => r.wr v g hmem h hg]
    exact r.fr.block g hg
  · intro u g hu hg hBg
    rcases mem_set_of hu with rfl | ⟨j, _, hj⟩
    · rcases (hv g hg).1 with h | h
      · exact r.wr v g hmem h hBg
      · have h2 := hB g hBg
        have h3 := r.fr.size
        omega
    · exact r.wr u g (List.mem_of_getElem? hj) hg hBg
theorem Rel.same (r : Rel B Ok0 w0 w Ok β st tm) (hB : ∀ g, B g → g < w0.heap.size) {id : Nat} {v : Value} (hid : β[id]? = some v) (hsz : w.heap.size ≤ w'.heap.size) (hos : w'.os = w.os) (htp : w'.tape = w.tape) (hout : w'.output = w.output)
    (hb : ∀ g, g < w.heap.size → blkOf v ≠ some g → w'.heap[g]? = w.heap[g]?) {st' : St} (hs : RelS w' Ok β st' tm) : Rel B Ok0 w0 w' Ok β st' tm := by
  have hmem : v ∈ β := List.mem_of_getElem? hid
  refine ⟨hs, ⟨hos.trans r.fr.os, htp.trans r.fr.tape, hout.trans r.fr.output, Nat.le_trans r.fr.size hsz, fun g hg => ?_⟩, r.wr, r.new, r.old⟩
  rw [hb g (Nat.lt_of_lt_of_le (hB g hg) r.fr.size) fun h => r.wr v g hmem h hg]
  exact r.fr.block g hg
/-- Rows are sealed, if the flag says so. -/
theorem Rel.sink (r : Rel B Ok0 w0 w Ok β st tm) (b : Bool) {ls : List Lf} {cs : List Value} (hls : All2 (RelL w Ok β) ls cs) :
    ∃ β' Ok', Rel B Ok0 w0 w Ok' β' (sinkSt b (ownIds ls) st) tm ∧ (∀ g, Ok g → Ok' g) ∧ (b = false → ∀ g, idBlk β (ownIds ls) g → Ok' g) ∧
      (∀ i : Nat, (b = true ∨ i ∉ ownIds ls) → β'[i]? = β[i]? ∧ ∀ e k l, st.heap[i]? = some (Ob.row e k l) → (sinkSt b (ownIds ls) st).heap[i]? = some (Ob.row e k l)) ∧
      (b = true → ∀ g, Ok' g → Ok g) ∧ β'.length = β.length := by
  cases b with
  | true => exact ⟨β, Ok, r, fun _ h => h, (by simp), fun _ _ => ⟨rfl, fun _ _ _ h => h⟩, fun _ _ h => h, rfl⟩
  | false =>
    obtain ⟨β', Ok', h1, h2, h3, h4, h5, h6, h7⟩ := sealAll_sound (ids := ownIds ls) r.s
    refine ⟨β', Ok', ⟨h1, r.fr, ?_, fun g hg => ?_, fun g hg => h2 g (r.old g hg)⟩, h2, fun _ g hg => ?_, fun i hi => h7 i (hi.resolve_left (by simp)), by simp, h6⟩
    · intro u g hu hg
      obtain ⟨i, hi⟩ := List.getElem?_of_mem hu
      exact r.wr u g (List.mem_of_getElem? (h5 i u g hi hg)) hg
    · rcases h3 g hg with h | ⟨i, _, v, hv, hgv⟩
      · exact r.new g h
      · exact .inr (r.wr v g (List.mem_of_getElem? hv) hgv)
    · obtain ⟨i, hi, ⟨e, k, l, ho⟩, hb⟩ := own_rows r.s.h hls hg
      exact h4 i hi e k l ho g hb
end
end Go.AM
