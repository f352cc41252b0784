/- The abstract machine: results that are only read from here on. Conditions: none. -/
import Derived.Test.YtlfelhdcokadbaaRound
import Derived.Lib.SlicesS
set_option linter.all false
namespace Go.AM
open Go.RowKit
/-- A value's own rows, as data that is only read. -/
def sealV (h : List Ob) : V1 → Option V1
  | .one .undef => some (.one .undef)
  | .one l => match borL h l with
    | some x => some (.one x)
    | none => none
  | .agg ls => match borLs h ls with
    | some s => some (.agg s)
    | none => none
def sealR (h : List Ob) : List V1 → Option (List V1)
  | [] => some []
  | x :: r => match sealV h x with
    | some y => match sealR h r with
      | some s => some (y :: s)
      | none => none
    | none => none
section
variable {P : Program} {T : TT} {E : Env} {w w0 : World} {Ok Ok' : Nat → Prop} {β : List Value}
theorem borL_free {h : List Ob} {l l' : Lf} {v : Value} (hb : borL h l = some l') {β' : List Value} (hr : RelL w Ok β l' v) : RelL w Ok β' l' v := by
  cases l <;> simp only [borL] at hb <;> first
    | (cases hb; exact hr)
    | (cases hb; done)
    | (split at hb
       · cases hb; exact hr
       · cases hb)
theorem borLs_free {h : List Ob} : ∀ {ls ls' : List Lf} {cs : List Value}, borLs h ls = some ls' → ∀ {β' : List Value}, All2 (RelL w Ok β) ls' cs → All2 (RelL w Ok β') ls' cs
  | [], _, _, hb, _, hr => by simp [borLs] at hb; subst hb; rw [hr.nil_left]; trivial
  | l :: ls, ls', cs, hb, β', hr => by
    simp only [borLs] at hb
    split at hb
    · rename_i y hy
      split at hb
      · rename_i s hs
        cases hb
        cases cs with
        | nil => exact hr.elim
        | cons c cs => exact ⟨borL_free hy hr.1, borLs_free hs hr.2⟩
      · cases hb
    · cases hb
theorem sealV_sound {h : List Ob} (hh : RelH w Ok β h) (hs : ∀ g, Ok g → Ok' g) (hall : ∀ v g, v ∈ β → blkOf v = some g → Ok' g) {x y : V1} {v : Value} (hx : sealV h x = some y) (hr : RelV1 w Ok β x v) : RelV1 w Ok' [] y v := by
  have hi : ∀ ls g, idBlk β (ownIds ls) g → Ok' g := fun ls g ⟨i, _, u, hu, hg⟩ => hall u g (List.mem_of_getElem? hu) hg
  cases x with
  | one l =>
    by_cases hl : l = .undef
    · subst hl; simp only [sealV] at hx; cases hx; trivial
    · have hx' : (match borL h l with | some x => some (V1.one x) | none => none) = some y := by cases l <;> first | exact absurd rfl hl | exact hx
      split at hx'
      · rename_i z hz
        cases hx'
        exact RelV1.of (borL_free hz (borL_sound hh hs hz (hi [l]) (hr.to hl)))
      · cases hx'
  | agg ls =>
    simp only [sealV] at hx
    split at hx
    · rename_i s hsl
      cases hx
      obtain ⟨vs, h1, h2⟩ := hr
      exact ⟨vs, h1, borLs_free hsl (borLs_sound hh hs hsl (hi ls) h2)⟩
    · cases hx
theorem sealR_sound {h : List Ob} (hh : RelH w Ok β h) (hs : ∀ g, Ok g → Ok' g) (hall : ∀ v g, v ∈ β → blkOf v = some g → Ok' g) : ∀ {xs ys : List V1} {vs : List Value}, sealR h xs = some ys → All2 (RelV1 w Ok β) xs vs → All2 (RelV1 w Ok' []) ys vs
  | [], _, _, hx, hr => by simp [sealR] at hx; subst hx; rw [hr.nil_left]; trivial
  | x :: xs, ys, vs, hx, hr => by
    simp only [sealR] at hx
    split at hx
    · rename_i y hy
      split at hx
      · rename_i s hs'
        cases hx
        cases vs with
        | nil => exact hr.elim
        | cons v vs => exact ⟨sealV_sound hh hs hall hy hr.1, sealR_sound hh hs hall hs' hr.2⟩
      · cases hx
    · cases hx
theorem sealR_len {h : List Ob} : ∀ {xs ys : List V1}, sealR h xs = some ys → ys.length = xs.length
  | [], _, hx => by simp [sealR] at hx; subst hx; rfl
  | x :: xs, ys, hx => by
    simp only [sealR] at hx
    split at hx
    · split at hx
      · rename_i s hs'; cases hx; simp [sealR_len hs']
      · cases hx
    · cases hx
/-- Results as data. -/
def nfL : List K → List V1 → (List V1 → Prop) → Prop
  | [], [], Q => Q []
  | k :: ks, v :: vs, Q => dK k v fun y => nfL ks vs fun r => Q (nfK k y :: r)
  | _, _, _ => False
theorem nfL_sound : ∀ {ks : List K} {vs : List V1} {us : List Value} {Q : List V1 → Prop}, nfL ks vs Q → All2 (RelV1 w Ok []) vs us → ∃ xs, Q xs ∧ All2 (RelV1 w Ok []) xs us ∧ xs.length = vs.length
  | [], [], us, Q, h, hr => ⟨[], h, hr, rfl⟩
  | k :: ks, v :: vs, [], Q, h, hr => hr.elim
  | k :: ks, v :: vs, u :: us, Q, h, hr => by
    obtain ⟨y, hy, h2⟩ := dK_iff h
    obtain ⟨xs, hq, hx, hl⟩ := nfL_sound h2 hr.2
    exact ⟨_, hq, ⟨nf_rel hr.1 hy.1 hy.2, hx⟩, by simp [hl]⟩
  | [], _ :: _, _, _, h, _ => h.elim
  | _ :: _, [], _, _, h, _ => h.elim
/-- Results sealed. -/
def sealPT (ks : List K) (p : PT) : PT := fun args h K => h = [] ∧ p args [] fun res h' => someK (sealR h' res) fun r => nfL ks r fun r => K r []
theorem SpecOk.sealing {f : FuncId} {p : PT} (ks : List K) (hp : SpecOk P f p) : SpecOk P f (sealPT ks p) := by
  rintro args h K ⟨rfl, hk⟩ w0 Ok0 β0 vals hargs hH
  have hb : β0 = [] := by
    have := hH.objs.length
    exact List.eq_nil_of_length_eq_zero this.symm
  subst hb
  refine Calls.mono (hp args [] _ hk w0 Ok0 [] vals hargs hH) fun e w' he => ?_
  cases e with
  | returned v =>
    obtain ⟨res, h', Ok', β', hq, hret, hrel⟩ := he
    obtain ⟨r0, hr, hq2⟩ := someK_iff hq
    clear hq
    let Okn : Nat → Prop := fun g => Ok' g ∨ ∃ u ∈ β', blkOf u = some g
    have hs : ∀ g, Ok' g → Okn g := fun _ => .inl
    have hall : ∀ u g, u ∈ β' → blkOf u = some g → Okn g := fun u g hu hg => .inr ⟨u, hu, hg⟩
    have hl := sealR_len hr
    have key : ∃ r, K r [] ∧ RetV w' Okn [] r v := by
      cases res with
      | nil =>
        simp [sealR] at hr; subst hr
        cases ks with
        | nil => exact ⟨[], hq2, trivial⟩
        | cons _ _ => exact hq2.elim
      | cons x xs =>
        cases xs with
        | nil =>
          have := sealR_sound hrel.s.h hs hall hr (vs := [v]) ⟨hret, trivial⟩
          obtain ⟨r, hk, hrv, hl2⟩ := nfL_sound hq2 this
          refine ⟨r, hk, ?_⟩
          cases r with
          | nil => rw [hl] at hl2; simp at hl2
          | cons y ys => cases ys with
            | nil => exact hrv.1
            | cons _ _ => rw [hl] at hl2; simp at hl2
        | cons x2 xs =>
          obtain ⟨vs, hv, hvs⟩ := hret
          have := sealR_sound hrel.s.h hs hall hr hvs
          obtain ⟨r, hk, hrv, hl2⟩ := nfL_sound hq2 this
          refine ⟨r, hk, ?_⟩
          cases r with
          | nil => rw [hl] at hl2; simp at hl2
          | cons y ys => cases ys with
            | nil => rw [hl] at hl2; simp at hl2
            | cons y2 ys => exact ⟨vs, hv, hrv⟩
    obtain ⟨r, hk, hrv⟩ := key
    refine ⟨r, [], Okn, [], hk, hrv, ⟨⟨trivial, fun i j v u g hi => by simp at hi, fun v g hv => by simp at hv, ?_, fun v g hv => by simp at hv⟩, trivial⟩, hrel.fr, fun v g hv => by simp at hv, ?_, fun g hg => .inl (hrel.old g hg)⟩
    · rintro g (hg | ⟨u, hu, hg⟩)
      · exact hrel.s.h.okLt g hg
      · exact hrel.s.h.lt u g hu hg
    · rintro g (hg | ⟨u, hu, hg⟩)
      · exact hrel.new g hg
      · exact .inr (hrel.wr u g hu hg)
  | _ => exact he
/-- What a function makes of its results before they go to Q. -/
abbrev SQ (ks : List K) (Q : QT) : QT := fun res h' => someK (sealR h' res) fun r => nfL ks r fun r => Q r []
variable (hT : ttOk P T = true) (hm : P.follows .mixedOrders = true)
include hT hm
theorem S0.okS (ks : List K) {F : QT → Prop} (hE : EnvOk P E) {A : Ann} {f : FuncId} {fn : Func} (hf : P.funcs[f]? = some fn) (h : ∀ Q, F Q → Of (afun T E A fn [] [] (SQ ks Q))) : SpecOk P f (S0 F) := by
  refine ((afun_sound hT hE hm (A := A) hf).sealing ks).data fun args hp Q hq => ?_
  unfold S0 at hq
  split at hq
  · exact ⟨rfl, [], trivial, rfl, (h Q hq).out⟩
  · exact hq.elim
theorem S1.okS (ks : List K) {k : K} {F : k.ty → QT → Prop} (hE : EnvOk P E) {A : Ann} {f : FuncId} {fn : Func} (hf : P.funcs[f]? = some fn) (h : ∀ x Q, F x Q → Of (afun T E A fn [nfK k x] [] (SQ ks Q))) : SpecOk P f (S1 k F) := by
  refine ((afun_sound hT hE hm (A := A) hf).sealing ks).data fun args hp Q hq => ?_
  unfold S1 at hq
  split at hq
  · obtain ⟨x, hx, hq⟩ := dK_iff hq
    exact ⟨rfl, [⟨k, x⟩], ⟨hx, trivial⟩, rfl, (h x Q hq).out⟩
  · exact hq.elim
theorem S2.okS (ks : List K) {k1 k2 : K} {F : k1.ty → k2.ty → QT → Prop} (hE : EnvOk P E) {A : Ann} {f : FuncId} {fn : Func} (hf : P.funcs[f]? = some fn) (h : ∀ x y Q, F x y Q → Of (afun T E A fn [nfK k1 x, nfK k2 y] [] (SQ ks Q))) : SpecOk P f (S2 k1 k2 F) := by
  refine ((afun_sound hT hE hm (A := A) hf).sealing ks).data fun args hp Q hq => ?_
  unfold S2 at hq
  split at hq
  · obtain ⟨x, hx, hq⟩ := dK_iff hq
    obtain ⟨y, hy, hq⟩ := dK_iff hq
    exact ⟨rfl, [⟨k1, x⟩, ⟨k2, y⟩], ⟨hx, hy, trivial⟩, rfl, (h x y Q hq).out⟩
  · exact hq.elim
theorem S3.okS (ks : List K) {k1 k2 k3 : K} {F : k1.ty → k2.ty → k3.ty → QT → Prop} (hE : EnvOk P E) {A : Ann} {f : FuncId} {fn : Func} (hf : P.funcs[f]? = some fn) (h : ∀ x y z Q, F x y z Q → Of (afun T E A fn [nfK k1 x, nfK k2 y, nfK k3 z] [] (SQ ks Q))) :
    SpecOk P f (S3 k1 k2 k3 F) := by
  refine ((afun_sound hT hE hm (A := A) hf).sealing ks).data fun args hp Q hq => ?_
  unfold S3 at hq
  split at hq
  · obtain ⟨x, hx, hq⟩ := dK_iff hq
    obtain ⟨y, hy, hq⟩ := dK_iff hq
    obtain ⟨z, hz, hq⟩ := dK_iff hq
    exact ⟨rfl, [⟨k1, x⟩, ⟨k2, y⟩, ⟨k3, z⟩], ⟨hx, hy, hz, trivial⟩, rfl, (h x y z Q hq).out⟩
  · exact hq.elim
theorem S4.okS (ks : List K) {k1 k2 k3 k4 : K} {F : k1.ty → k2.ty → k3.ty → k4.ty → QT → Prop} (hE : EnvOk P E) {A : Ann} {f : FuncId} {fn : Func} (hf : P.funcs[f]? = some fn)
    (h : ∀ x y z u Q, F x y z u Q → Of (afun T E A fn [nfK k1 x, nfK k2 y, nfK k3 z, nfK k4 u] [] (SQ ks Q))) : SpecOk P f (S4 k1 k2 k3 k4 F) := by
  refine ((afun_sound hT hE hm (A := A) hf).sealing ks).data fun args hp Q hq => ?_
  unfold S4 at hq
  split at hq
  · obtain ⟨x, hx, hq⟩ := dK_iff hq
    obtain ⟨y, hy, hq⟩ := dK_iff hq
    obtain ⟨z, hz, hq⟩ := dK_iff hq
    obtain ⟨u, hu, hq⟩ := dK_iff hq
    exact ⟨rfl, [⟨k1, x⟩, ⟨k2, y⟩, ⟨k3, z⟩, ⟨k4, u⟩], ⟨hx, hy, hz, hu, trivial⟩, rfl, (h x y z u Q hq).out⟩
  · exact hq.elim
end
end Go.AM
namespace Go.AM
open Go.RowKit
section
variable {P : Program} {T : TT} {E : Env} {w w0 : World} {Ok Ok' : Nat → Prop} {β : List Value}
/-- Arguments: as they are, or data in their own form. -/
def argsN2 : List V1 → List V1 → Prop
  | [], [] => True
  | v :: vs, x :: xs => (x = v ∨ ∃ (k : K) (y : k.ty), shapeOk k v = true ∧ deep [] k v.ls = some y ∧ x = nfK k y) ∧ argsN2 vs xs
  | _, _ => False
theorem args_rel2 : ∀ {vs xs : List V1} {us : List Value}, argsN2 vs xs → All2 (RelV1 w Ok []) vs us → All2 (RelV1 w Ok []) xs us
  | [], [], _, _, h => h
  | _ :: _, _ :: _, [], _, h => h.elim
  | _ :: _, _ :: _, _ :: _, hn, h => by
    refine ⟨?_, args_rel2 hn.2 h.2⟩
    rcases hn.1 with rfl | ⟨k, y, h1, h2, rfl⟩
    · exact h.1
    · exact nf_rel h.1 h1 h2
  | [], _ :: _, _, h, _ => h.elim
  | _ :: _, [], _, h, _ => h.elim
theorem SpecOk.data2 {f : FuncId} {p q : PT} (hp : SpecOk P f p) (h : ∀ args hp Q, q args hp Q → hp = [] ∧ ∃ xs, argsN2 args xs ∧ p xs [] Q) : SpecOk P f q := by
  intro args hh K hq w0 Ok0 β0 vals hv hH
  obtain ⟨rfl, xs, hn, hp'⟩ := h args hh K hq
  have hb : β0 = [] := by
    have := hH.objs.length
    exact List.eq_nil_of_length_eq_zero this.symm
  subst hb
  exact hp _ [] K hp' w0 Ok0 [] vals (args_rel2 hn hv) hH
end
end Go.AM
