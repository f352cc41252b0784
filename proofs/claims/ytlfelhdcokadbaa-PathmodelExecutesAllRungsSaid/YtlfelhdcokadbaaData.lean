/- The abstract machine: data, borrowing, sealing, naming anew. Conditions: none. -/
import Derived.Test.YtlfelhdcokadbaaRel
set_option linter.all false
namespace Go.AM
open Go.RowKit

/-! ### the strict style, read off -/
theorem setK_eq {α : Type} : ∀ (l : List α) (i : Nat) (v : α) (Q : List α → Prop), setK l i v Q = Q (l.set i v)
  | [], _, _, _ => rfl
  | _ :: _, 0, _, _ => rfl
  | x :: l, i + 1, v, Q => by simp only [setK, setK_eq l i v, List.set_cons_succ]
theorem getK_iff {α : Type} : ∀ {l : List α} {i : Nat} {Q : α → Prop}, getK l i Q → ∃ x, l[i]? = some x ∧ Q x
  | [], _, _, h => h.elim
  | x :: _, 0, _, h => ⟨x, by simp, h⟩
  | _ :: l, i + 1, Q, h => by
    obtain ⟨x, h1, h2⟩ := getK_iff (l := l) (i := i) (Q := Q) h
    exact ⟨x, by simpa using h1, h2⟩
theorem someK_iff {α : Type} {o : Option α} {Q : α → Prop} (h : someK o Q) : ∃ x, o = some x ∧ Q x := by
  cases o with
  | none => exact h.elim
  | some x => exact ⟨x, rfl, h⟩
theorem ifK_iff {b : Bool} {X : Prop} (h : ifK b X) : b = true ∧ X := by
  cases b with
  | false => exact h.elim
  | true => exact ⟨rfl, h⟩
theorem snocK_eq {α : Type} : ∀ (l : List α) (v : α) (i : Nat) (Q : Nat → List α → Prop), snocK l v i Q = Q (i + l.length) (l ++ [v])
  | [], _, _, _ => rfl
  | x :: l, v, i, Q => by
    simp only [snocK, snocK_eq l v (i + 1), List.length_cons, List.cons_append]
    rw [show i + 1 + l.length = i + (l.length + 1) by omega]
@[simp] theorem lfK_eq (l : Lf) (Q : Lf → Prop) : lfK l Q = Q l := by cases l <;> rfl
@[simp] theorem lfsK_eq : ∀ (l : List Lf) (Q : List Lf → Prop), lfsK l Q = Q l
  | [], _ => rfl
  | x :: r, Q => by simp only [lfsK, lfK_eq, lfsK_eq r]
@[simp] theorem v1K_eq (v : V1) (Q : V1 → Prop) : v1K v Q = Q v := by cases v <;> simp [v1K]
@[simp] theorem v1sK_eq : ∀ (l : List V1) (Q : List V1 → Prop), v1sK l Q = Q l
  | [], _ => rfl
  | x :: r, Q => by simp only [v1sK, v1K_eq, v1sK_eq r]
@[simp] theorem vK_eq (v : V) (Q : V → Prop) : vK v Q = Q v := by cases v <;> simp [vK]
@[simp] theorem vsK_eq : ∀ (l : List V) (Q : List V → Prop), vsK l Q = Q l
  | [], _ => rfl
  | x :: r, Q => by simp only [vsK, vK_eq, vsK_eq r]
@[simp] theorem obK_eq (v : Ob) (Q : Ob → Prop) : obK v Q = Q v := by cases v <;> simp [obK]
@[simp] theorem obsK_eq : ∀ (l : List Ob) (Q : List Ob → Prop), obsK l Q = Q l
  | [], _ => rfl
  | x :: r, Q => by simp only [obsK, obK_eq, obsK_eq r]
@[simp] theorem stK_eq (st : St) (Q : St → Prop) : stK st Q = Q st := by cases st; simp [stK]
theorem newK_eq (st : St) (o : Ob) (Q : Nat → St → Prop) : newK st o Q = Q st.heap.length ⟨st.slots, st.heap ++ [o]⟩ := by
  cases st; simp [newK, snocK_eq]

/-! ### data and leaves -/
section
variable {w : World} {Ok Ok' : Nat → Prop} {β : List Value}
theorem leaves_rel : ∀ {k : K} {x : k.ty} {cs : List Value}, RdC w Ok k x cs → All2 (RelL w Ok β) (leaves k x) cs
  | .int _, _, _, h => by rw [show _ = [_] from h]; exact ⟨rfl, trivial⟩
  | .bool, _, _, h => by rw [show _ = [_] from h]; exact ⟨rfl, trivial⟩
  | .str, _, _, h => by rw [show _ = [_] from h]; exact ⟨rfl, trivial⟩
  | .pair a b, x, cs, ⟨c, d, e, h1, h2⟩ => by rw [e]; exact (leaves_rel h1).append (leaves_rel h2)
  | .slice e k, l, cs, ⟨v, hv, h⟩ => by rw [hv]; exact ⟨h, trivial⟩
theorem leaves_len : ∀ {k : K} {x : k.ty}, (leaves k x).length = k.sz
  | .int _, _ => rfl
  | .bool, _ => rfl
  | .str, _ => rfl
  | .pair a b, x => by simp only [leaves, List.length_append, leaves_len, K.sz]
  | .slice e k, l => rfl
theorem dflt_rel : ∀ {k : K}, k.flat = true → True := fun _ => trivial
/-- Data without slices say nothing of the world. -/
theorem RdC.flat {w' : World} : ∀ {k : K} {x : k.ty} {cs : List Value}, k.flat = true → RdC w Ok k x cs → RdC w' Ok' k x cs
  | .int _, _, _, _, h => h
  | .bool, _, _, _, h => h
  | .str, _, _, _, h => h
  | .pair a b, x, cs, hf, ⟨c, d, e, h1, h2⟩ => by
    simp only [K.flat, Bool.and_eq_true] at hf
    exact ⟨c, d, e, RdC.flat hf.1 h1, RdC.flat hf.2 h2⟩
  | .slice _ _, _, _, hf, _ => by simp [K.flat] at hf
theorem unleaf_sound : ∀ {k : K} {ls : List Lf} {x : k.ty} {r : List Lf} {cs : List Value}, unleaf k ls = some (x, r) → All2 (RelL w Ok β) ls cs →
    ∃ c d, cs = c ++ d ∧ RdC w Ok k x c ∧ All2 (RelL w Ok β) r d := by
  intro k
  induction k with
  | int ik =>
    intro ls x r cs h hr
    cases ls with
    | nil => simp [unleaf] at h
    | cons l ls =>
      cases l <;> simp only [unleaf] at h <;> try cases h
      rename_i jk y
      split at h
      · rename_i e
        subst e
        cases h
        cases cs with
        | nil => exact hr.elim
        | cons c cs => exact ⟨[c], cs, rfl, by rw [show c = _ from hr.1]; rfl, hr.2⟩
      · cases h
  | bool =>
    intro ls x r cs h hr
    cases ls with
    | nil => simp [unleaf] at h
    | cons l ls =>
      cases l <;> simp only [unleaf] at h <;> cases h
      cases cs with
      | nil => exact hr.elim
      | cons c cs => exact ⟨[c], cs, rfl, by rw [show c = _ from hr.1]; rfl, hr.2⟩
  | str =>
    intro ls x r cs h hr
    cases ls with
    | nil => simp [unleaf] at h
    | cons l ls =>
      cases l <;> simp only [unleaf] at h <;> cases h
      cases cs with
      | nil => exact hr.elim
      | cons c cs => exact ⟨[c], cs, rfl, by rw [show c = _ from hr.1]; rfl, hr.2⟩
  | pair a b iha ihb =>
    intro ls x r cs h hr
    simp only [unleaf] at h
    split at h
    · rename_i x1 r1 h1
      split at h
      · rename_i x2 r2 h2
        cases h
        obtain ⟨c1, d1, e1, hc1, hd1⟩ := iha h1 hr
        obtain ⟨c2, d2, e2, hc2, hd2⟩ := ihb h2 hd1
        exact ⟨c1 ++ c2, d2, by rw [e1, e2, List.append_assoc], ⟨c1, c2, rfl, hc1, hc2⟩, hd2⟩
      · cases h
    · cases h
  | slice e k _ =>
    intro ls x r cs h hr
    cases ls with
    | nil => simp [unleaf] at h
    | cons l ls =>
      cases l <;> simp only [unleaf] at h <;> try cases h
      · rename_i e' k' l'
        split at h
        · rename_i he
          subst he
          split at h
          · rename_i hk
            subst hk
            cases h
            cases cs with
            | nil => exact hr.elim
            | cons c cs => exact ⟨[c], cs, rfl, ⟨c, rfl, hr.1⟩, hr.2⟩
          · cases h
        · cases h
      · cases cs with
        | nil => exact hr.elim
        | cons c cs => exact ⟨[c], cs, rfl, ⟨c, rfl, .inl ⟨rfl, _, hr.1⟩⟩, hr.2⟩

theorem RelH.obj {heap : List Ob} (h : RelH w Ok β heap) {i : Nat} {o : Ob} (hi : heap[i]? = some o) : ∃ v, β[i]? = some v ∧ RelO w Ok β o v := h.objs.get hi
/-- A row of the frame's own, read. -/
theorem RelO.borrow {e : TypeId} {k : K} {l : List k.ty} {v : Value} (h : RelO w Ok β (.row e k l) v) (hs : ∀ g, Ok g → Ok' g) (hb : ∀ g, blkOf v = some g → Ok' g) :
    RdS (RdC w Ok' k) w Ok' e k.sz l v := by
  obtain ⟨xs, ho, hr⟩ := h
  rcases ho.2 with ⟨hv, hn⟩ | ⟨g, o, cap, cur, hv, hg, hnc, _, hcs, htake⟩
  · exact .inl ⟨List.eq_nil_of_length_eq_zero hn, _, hv⟩
  · refine .inr ⟨g, o, cap, cur, _, (0, 0), hv, hb g (by simp [hv, blkOf]), hg, hnc, ?_, ?_⟩
    · have : l.length * k.sz ≤ cap * k.sz := Nat.mul_le_mul_right _ hnc
      omega
    · rw [htake]
      exact hr.mono fun _ _ => RdC.mono ⟨hs, fun _ _ _ h => h⟩
/-- Blocks of the rows that a list of leaves names. -/
def idBlk (β : List Value) (ids : List Nat) (g : Nat) : Prop := ∃ i ∈ ids, ∃ v, β[i]? = some v ∧ blkOf v = some g
theorem borL_sound {heap : List Ob} (hh : RelH w Ok β heap) (hs : ∀ g, Ok g → Ok' g) {l l' : Lf} {v : Value} (hb : borL heap l = some l') (hi : ∀ g, idBlk β (ownIds [l]) g → Ok' g)
    (h : RelL w Ok β l v) : RelL w Ok' β l' v := by
  have hmono : RelL w Ok' β l v := RelL.mono ⟨hs, fun _ _ _ h => h⟩ (fun _ _ h => h) h
  cases l with
  | own id =>
    simp only [borL] at hb
    split at hb
    · rename_i e k l ho
      cases hb
      obtain ⟨u, hu, hr⟩ := hh.obj ho
      have : u = v := by have := h.1; rw [hu] at this; cases this; rfl
      subst this
      exact RelO.borrow hr hs fun g hg => hi g ⟨id, by simp [ownIds], u, hu, hg⟩
    · cases hb
  | ptr _ _ => simp [borL] at hb
  | ept _ _ _ _ => simp [borL] at hb
  | clo _ _ => simp [borL] at hb
  | mp _ => simp [borL] at hb
  | undef => simp [borL] at hb
  | skip => simp [borL] at hb
  | _ => simp only [borL] at hb; cases hb; exact hmono
theorem ownIds_cons (l : Lf) (r : List Lf) : ownIds (l :: r) = ownIds [l] ++ ownIds r := by cases l <;> rfl
theorem borLs_sound {heap : List Ob} (hh : RelH w Ok β heap) (hs : ∀ g, Ok g → Ok' g) : ∀ {ls ls' : List Lf} {cs : List Value}, borLs heap ls = some ls' → (∀ g, idBlk β (ownIds ls) g → Ok' g) →
    All2 (RelL w Ok β) ls cs → All2 (RelL w Ok' β) ls' cs
  | [], _, _, h, _, hr => by simp [borLs] at h; subst h; rw [hr.nil_left]; trivial
  | l :: r, _, [], _, _, hr => hr.elim
  | l :: r, ls', c :: cs, h, hi, hr => by
    simp only [borLs] at h
    split at h
    · rename_i y hy
      split at h
      · rename_i s hs'
        cases h
        refine ⟨borL_sound hh hs hy (fun g hg => hi g ?_) hr.1, borLs_sound hh hs hs' (fun g hg => hi g ?_) hr.2⟩
        · obtain ⟨i, hm, r⟩ := hg
          exact ⟨i, by rw [ownIds_cons]; exact List.mem_append_left _ hm, r⟩
        · obtain ⟨i, hm, r⟩ := hg
          exact ⟨i, by rw [ownIds_cons]; exact List.mem_append_right _ hm, r⟩
      · cases h
    · cases h
theorem deep_sound {heap : List Ob} (hh : RelH w Ok β heap) (hs : ∀ g, Ok g → Ok' g) {k : K} {ls : List Lf} {x : k.ty} {cs : List Value} (hd : deep heap k ls = some x)
    (hi : ∀ g, idBlk β (ownIds ls) g → Ok' g) (hr : All2 (RelL w Ok β) ls cs) : RdC w Ok' k x cs := by
  unfold deep at hd
  split at hd
  · rename_i ls' hb
    split at hd
    · rename_i y hu
      cases hd
      obtain ⟨c, d, e, hc, hd⟩ := unleaf_sound hu (borLs_sound hh hs hb hi hr)
      rw [hd.nil_left, List.append_nil] at e
      rw [e]; exact hc
    · cases hd
  · cases hd

/-! ### states -/
structure RelS (w : World) (Ok : Nat → Prop) (β : List Value) (st : St) (tm : List Value) : Prop where
  h : RelH w Ok β st.heap
  s : All2 (RelV w Ok β) st.slots tm
end
section
variable {w w' : World} {Ok Ok' : Nat → Prop} {β β' : List Value}
theorem RelV1.mapL (f : Lf → Lf) (hu : f .undef = .undef) (hf : ∀ l v, RelL w Ok β l v → RelL w' Ok' β' (f l) v) {x : V1} {v : Value} (h : RelV1 w Ok β x v) : RelV1 w' Ok' β' (mapV1 f x) v := by
  cases x with
  | one l =>
    by_cases hl : l = .undef
    · subst hl; simp only [mapV1, hu]; trivial
    · exact .of (hf _ _ (h.to hl))
  | agg ls =>
    obtain ⟨vs, h1, h2⟩ := h
    exact ⟨vs, h1, All2.map f (h2.mono hf)⟩
theorem RelV.mapL (f : Lf → Lf) (hu : f .undef = .undef) (hf : ∀ l v, RelL w Ok β l v → RelL w' Ok' β' (f l) v) {x : V} {v : Value} (h : RelV w Ok β x v) : RelV w' Ok' β' (mapV f x) v := by
  cases x with
  | v x => exact RelV1.mapL f hu hf h
  | tup xs =>
    obtain ⟨vs, h1, h2⟩ := h
    exact ⟨vs, h1, All2.map (mapV1 f) (h2.mono fun _ _ => RelV1.mapL f hu hf)⟩
theorem RelO.mapL (f : Lf → Lf) (hu : f .undef = .undef) (hf : ∀ l v, RelL w Ok β l v → RelL w' Ok' β' (f l) v) (hs : Stay w w' Ok Ok') {o : Ob} {v : Value} (hk : ∀ g, blkOf v = some g → w'.heap[g]? = w.heap[g]?)
    (h : RelO w Ok β o v) : RelO w' Ok' β' (mapOb f o) v := by
  cases o with
  | box t cs =>
    obtain ⟨g, cur, hv, hg, hc⟩ := h
    exact ⟨g, cur, hv, by rw [hk g (by simp [hv, blkOf])]; exact hg, All2.map f (hc.mono hf)⟩
  | row e k l =>
    obtain ⟨xs, ho, hr⟩ := h
    refine ⟨xs, ⟨ho.1, ?_⟩, hr.mono fun _ _ => RdC.mono hs⟩
    rcases ho.2 with h | ⟨g, o, cap, cur, hv, hg, r⟩
    · exact .inl h
    · exact .inr ⟨g, o, cap, cur, hv, by rw [hk g (by simp [hv, blkOf])]; exact hg, r⟩
  | dead => exact h
  | iter s pos => obtain ⟨g, hv, hg⟩ := h; exact ⟨g, hv, by rw [hk g (by simp [hv, blkOf])]; exact hg⟩
  | map l => obtain ⟨g, es, ck, hv, hg, hl⟩ := h; exact ⟨g, es, ck, hv, by rw [hk g (by simp [hv, blkOf])]; exact hg, hl⟩
  | frame u cs => exact ⟨h.1, All2.map (mapV f) (h.2.mono fun _ _ => RelV.mapL f hu hf)⟩
  | raw g o => obtain ⟨hv, hg⟩ := h; exact ⟨hv, by rw [hk g (by simp [hv, blkOf])]; exact hg⟩
end
section
variable {w : World} {Ok : Nat → Prop} {β : List Value}
theorem blkOf_undef : blkOf undef = none := rfl
theorem get_set_ne {α : Type} {l : List α} {i j : Nat} {a : α} (h : j ≠ i) : (l.set i a)[j]? = l[j]? := by
  rw [List.getElem?_set]; simp [Ne.symm h]
theorem mem_set_of {α : Type} {l : List α} {i : Nat} {a b : α} (h : b ∈ l.set i a) : b = a ∨ ∃ j, j ≠ i ∧ l[j]? = some b := by
  obtain ⟨j, hj⟩ := List.getElem?_of_mem h
  by_cases hji : j = i
  · subst hji
    rw [List.getElem?_set] at hj
    simp at hj
    exact .inl hj.2.symm
  · rw [get_set_ne hji] at hj
    exact .inr ⟨j, hji, hj⟩
/-- A row is sealed: its block is allowed from here on. -/
theorem seal_sound {st st' : St} {id : Nat} {tm : List Value} (h : RelS w Ok β st tm) (hs : sealSt id st = some st') :
    ∃ β' Ok', RelS w Ok' β' st' tm ∧ (∀ g, Ok' g ↔ Ok g ∨ idBlk β [id] g) ∧ β' = β.set id undef := by
  unfold sealSt at hs
  split at hs
  · rename_i e k l ho
    cases hs
    obtain ⟨v, hv, hr⟩ := h.h.obj ho
    obtain ⟨a0, c0, hsl⟩ := hr.row_val
    let Ok' : Nat → Prop := fun g => Ok g ∨ idBlk β [id] g
    have hstay : Stay w w Ok Ok' := ⟨fun _ => .inl, fun _ _ _ h => h⟩
    have hid : ∀ g, blkOf v = some g → Ok' g := fun g hg => .inr ⟨id, by simp, v, hv, hg⟩
    have hL : ∀ (x : Lf) (u : Value), RelL w Ok β x u → RelL w Ok' (β.set id undef) (sealL id e k l x) u := by
      intro x u hx
      have hne : ∀ i : Nat, i ≠ id → ∀ z : Value, β[i]? = some z → (β.set id undef)[i]? = some z := fun i hi z hz => by rw [get_set_ne hi]; exact hz
      have hptr : ∀ n off u, RelPtr β n off u → RelPtr (β.set id undef) n off u := fun n off u ⟨g, h1, h2⟩ => by
        refine ⟨g, hne n ?_ _ h1, h2⟩
        rintro rfl
        rw [hv] at h1; cases h1
        cases hsl
      cases x with
      | own i =>
        simp only [sealL]
        split
        · rename_i hi
          subst hi
          have : u = v := by have := hx.1; rw [hv] at this; cases this; rfl
          subst this
          exact RelO.borrow hr (fun _ => .inl) hid
        · rename_i hi
          exact ⟨hne i hi _ hx.1, hx.2⟩
      | ept i n sz off =>
        simp only [sealL]
        split
        · exact hx.def1 (by simp)
        · rename_i hi
          obtain ⟨g, o, m, c, h1, h2⟩ := hx
          exact ⟨g, o, m, c, hne i hi _ h1, h2⟩
      | ptr i off => exact hptr _ _ _ hx
      | mp i =>
        obtain ⟨h1, g, h2⟩ := hx
        refine ⟨hne i ?_ _ h1, g, h2⟩
        rintro rfl
        rw [hv] at h1; cases h1
        rw [hsl] at h2; cases h2
      | clo f caps =>
        obtain ⟨vs, h1, h2⟩ := hx
        refine ⟨vs, h1, h2.mono fun c u hc => ?_⟩
        cases c with
        | id n => exact hptr _ _ _ hc
        | imm k x => exact RelRp.mono hstay hc
      | sl e k l => exact RdS.mono (e := e) hstay (fun _ _ => RdC.mono hstay) hx
      | rp k x off => exact RelRp.mono hstay hx
      | _ => exact hx
    refine ⟨β.set id undef, Ok', ⟨⟨?_, ?_, ?_, ?_, ?_⟩, ?_⟩, fun _ => Iff.rfl, rfl⟩
    · refine All2.set id (All2.map (mapOb _) (h.h.objs.mono fun o v hov => ?_)) rfl
      exact RelO.mapL _ rfl hL hstay (fun _ _ => rfl) hov
    · intro i j x y g hi hj hx hy
      by_cases hii : i = id
      · subst hii
        rw [List.getElem?_set] at hi
        simp at hi
        rw [← hi.2] at hx; cases hx
      · by_cases hjj : j = id
        · subst hjj
          rw [List.getElem?_set] at hj
          simp at hj
          rw [← hj.2] at hy; cases hy
        · rw [get_set_ne hii] at hi
          rw [get_set_ne hjj] at hj
          exact h.h.dist i j x y g hi hj hx hy
    · intro x g hx hg
      rcases mem_set_of hx with rfl | ⟨j, _, hj⟩
      · cases hg
      · exact h.h.lt x g (List.mem_of_getElem? hj) hg
    · rintro g (hg | ⟨i, hi, x, hx, hg⟩)
      · exact h.h.okLt g hg
      · exact h.h.lt x g (List.mem_of_getElem? hx) hg
    · intro x g hx hg
      rcases mem_set_of hx with rfl | ⟨j, hj, hxj⟩
      · cases hg
      · rintro (ho' | ⟨i, hi, y, hy, hgy⟩)
        · exact h.h.okNot x g (List.mem_of_getElem? hxj) hg ho'
        · simp at hi
          subst hi
          exact hj (h.h.dist j i x y g hxj hy hg hgy)
    · exact All2.map (mapV _) (h.s.mono fun _ _ => RelV.mapL _ rfl hL)
  · cases hs
theorem sealAll_sound : ∀ {ids : List Nat} {st : St} {β : List Value} {Ok : Nat → Prop} {tm : List Value}, RelS w Ok β st tm →
    ∃ β' Ok', RelS w Ok' β' (sealAll ids st) tm ∧ (∀ g, Ok g → Ok' g) ∧ (∀ g, Ok' g → Ok g ∨ idBlk β ids g) ∧ (∀ i ∈ ids, ∀ e k l, st.heap[i]? = some (Ob.row e k l) → ∀ g, idBlk β [i] g → Ok' g) ∧
      (∀ (i : Nat) v g, β'[i]? = some v → blkOf v = some g → β[i]? = some v) ∧ β'.length = β.length ∧
      (∀ i : Nat, i ∉ ids → β'[i]? = β[i]? ∧ ∀ e k l, st.heap[i]? = some (Ob.row e k l) → (sealAll ids st).heap[i]? = some (Ob.row e k l)) := by
  intro ids
  induction ids with
  | nil => intro st β Ok tm h; exact ⟨β, Ok, h, fun _ h => h, fun _ h => .inl h, fun _ h => by simp at h, fun _ _ _ h _ => h, rfl, fun _ _ => ⟨rfl, fun _ _ _ h => h⟩⟩
  | cons id r ih =>
    intro st β Ok tm h
    simp only [sealAll]
    split
    · rename_i st' hst
      obtain ⟨β1, Ok1, h1, hok1, hb1⟩ := seal_sound h hst
      obtain ⟨β2, Ok2, h2, hm2, hb2, hr2, hg2, hl2, hk2⟩ := ih h1
      have back : ∀ (i : Nat) v g, β1[i]? = some v → blkOf v = some g → β[i]? = some v := by
        intro i v g hv hg
        rw [hb1] at hv
        by_cases hi : i = id
        · subst hi
          rw [List.getElem?_set] at hv
          simp at hv
          rw [← hv.2] at hg; cases hg
        · rwa [get_set_ne hi] at hv
      refine ⟨β2, Ok2, h2, fun g hg => hm2 g ((hok1 g).2 (.inl hg)), ?_, ?_, fun i v g hv hg => back i v g (hg2 i v g hv hg) hg, by rw [hl2, hb1, List.length_set], ?_⟩
      · intro g hg
        rcases hb2 g hg with hg | ⟨i, hi, v, hv, hg⟩
        · rcases (hok1 g).1 hg with hg | ⟨i, hi, v, hv, hg⟩
          · exact .inl hg
          · exact .inr ⟨i, by simp at hi; simp [hi], v, hv, hg⟩
        · exact .inr ⟨i, by simp [hi], v, back i v g hv hg, hg⟩
      · intro i hi e k l ho g hg
        by_cases hii : i = id
        · subst hii
          exact hm2 g ((hok1 g).2 (.inr hg))
        · have hi' : i ∈ r := by simpa [hii] using hi
          refine hr2 i hi' e k l ?_ g ?_
          · unfold sealSt at hst
            split at hst
            · cases hst
              rw [get_set_ne hii, List.getElem?_map, ho]; rfl
            · cases hst
          · obtain ⟨j, hj, v, hv, hgv⟩ := hg
            simp at hj
            subst hj
            exact ⟨j, by simp, v, by rw [hb1, get_set_ne hii]; exact hv, hgv⟩
      · intro i hi
        have hii : i ≠ id := by rintro rfl; exact hi (by simp)
        have hir : i ∉ r := fun h => hi (by simp [h])
        obtain ⟨k1, k2⟩ := hk2 i hir
        refine ⟨by rw [k1, hb1, get_set_ne hii], fun e k l ho => k2 e k l ?_⟩
        unfold sealSt at hst
        split at hst
        · cases hst
          rw [get_set_ne hii, List.getElem?_map, ho]; rfl
        · cases hst
    · rename_i hst
      obtain ⟨β2, Ok2, h2, hm2, hb2, hr2, hg2, hl2, hk2⟩ := ih h
      refine ⟨β2, Ok2, h2, hm2, fun g hg => (hb2 g hg).imp (fun h => h) fun ⟨i, hi, r⟩ => ⟨i, by simp [hi], r⟩, ?_, hg2, hl2, fun i hi => hk2 i fun h => hi (by simp [h])⟩
      intro i hi e k l ho
      by_cases hii : i = id
      · subst hii
        exfalso
        unfold sealSt at hst
        rw [ho] at hst
        cases hst
      · exact hr2 i (by simpa [hii] using hi) e k l ho
theorem ownIds_mem {l : Lf} : ∀ {ls : List Lf} {i : Nat}, i ∈ ownIds ls → Lf.own i ∈ ls
  | [], _, h => by simp [ownIds] at h
  | l :: r, i, h => by
    rw [ownIds_cons] at h
    rcases List.mem_append.1 h with h | h
    · cases l <;> simp [ownIds] at h
      subst h; simp
    · exact List.mem_cons_of_mem _ (ownIds_mem (l := l) h)
/-- The blocks that a list of leaves names are those of rows. -/
theorem own_rows {heap : List Ob} (hh : RelH w Ok β heap) {ls : List Lf} {cs : List Value} (hr : All2 (RelL w Ok β) ls cs) {g : Nat} (hg : idBlk β (ownIds ls) g) :
    ∃ i ∈ ownIds ls, (∃ e k l, heap[i]? = some (Ob.row e k l)) ∧ idBlk β [i] g := by
  obtain ⟨i, hi, v, hv, hb⟩ := hg
  refine ⟨i, hi, ?_, i, by simp, v, hv, hb⟩
  obtain ⟨j, hj⟩ := List.getElem?_of_mem (ownIds_mem (l := .undef) hi)
  obtain ⟨u, _, hu, a, n, c, hsl⟩ := hr.get hj
  rw [hv] at hu
  obtain rfl : v = u := by cases hu; rfl
  have hlt : i < heap.length := by rw [hh.objs.length]; exact (List.getElem?_eq_some_iff.1 hv).1
  have hob := List.getElem?_eq_getElem hlt
  obtain ⟨u', hu', ho⟩ := hh.obj hob
  rw [hv] at hu'
  obtain rfl : v = u' := by cases hu'; rfl
  cases hc : heap[i] with
  | row e k l => exact ⟨e, k, l, by rw [hob, hc]⟩
  | box t cs =>
    rw [hc] at ho
    obtain ⟨g, cur, hv', _⟩ := ho
    rw [hsl] at hv'; cases hv'
  | dead =>
    rw [hc] at ho
    have : blkOf v = none := ho
    rw [this] at hb; cases hb
  | iter s pos => rw [hc] at ho; obtain ⟨g, hv', _⟩ := ho; rw [hsl] at hv'; cases hv'
  | map l => rw [hc] at ho; obtain ⟨g, es, ck, hv', _⟩ := ho; rw [hsl] at hv'; cases hv'
  | frame u cs => rw [hc] at ho; have := ho.1; rw [hsl] at this; cases this
  | raw g o => rw [hc] at ho; have := ho.1; rw [hsl] at this; cases this
end
end Go.AM
