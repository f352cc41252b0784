/- The abstract machine: specs over data. Conditions: none. -/
import Derived.Test.YtlfelhdcokadbaaFun
set_option linter.all false
namespace Go.AM
open Go.RowKit
def shapeOk : K → V1 → Bool
  | .pair _ _, .agg _ => true
  | .pair _ _, .one _ => false
  | _, .one _ => true
  | _, .agg _ => false
/-- An argument as data. -/
def dK (k : K) (v : V1) (Q : k.ty → Prop) : Prop := ifK (shapeOk k v) (someK (deep [] k v.ls) Q)
def nfK : (k : K) → k.ty → V1
  | .int ik, x => .one (.int ik x)
  | .bool, b => .one (.bool b)
  | .str, s => .one (.str s)
  | .pair a b, x => .agg (leaves (.pair a b) x)
  | .slice e k, l => .one (.sl e k l)
section
variable {P : Program} {T : TT} {E : Env} {w w0 : World} {Ok Ok0 : Nat → Prop}
theorem nf_rel {k : K} {v : V1} {u : Value} {x : k.ty} (h : RelV1 w Ok [] v u) (hs : shapeOk k v = true) (hd : deep [] k v.ls = some x) : RelV1 w Ok [] (nfK k x) u := by
  have hdef := deep_def hd
  obtain ⟨hc, _⟩ := h.cells hdef
  have hH : True := trivial
  have hx : RdC w Ok k x u.cells.toList := by
    unfold deep at hd
    split at hd
    · rename_i ls' hb
      split at hd
      · rename_i y hu
        cases hd
        have hb2 : All2 (RelL w Ok []) ls' u.cells.toList := by
          clear hu h hdef hs
          revert ls'
          generalize u.cells.toList = us at hc
          generalize v.ls = ls at hc
          induction ls generalizing us with
          | nil => intro ls' hb; simp [borLs] at hb; subst hb; exact hc
          | cons l ls ih =>
            intro ls' hb
            cases us with
            | nil => exact hc.elim
            | cons u us =>
              simp only [borLs] at hb
              split at hb
              · rename_i y hy
                split at hb
                · rename_i s hs
                  cases hb
                  refine ⟨?_, ih us hc.2 s hs⟩
                  have h1 := hc.1
                  cases l <;> simp [borL] at hy <;> (subst hy; exact h1)
                · cases hb
              · cases hb
        obtain ⟨c, d, e, hc2, hd2⟩ := unleaf_sound hu hb2
        rw [hd2.nil_left, List.append_nil] at e
        rw [e]; exact hc2
      · cases hd
    · cases hd
  have hl := leaves_rel (β := []) hx
  cases v with
  | agg ls =>
    obtain ⟨vs, rfl, _⟩ := h
    cases k with
    | pair a b => exact ⟨vs, rfl, hl⟩
    | _ => simp [shapeOk] at hs
  | one l =>
    have h1 := (h.to (by rintro rfl; simp [isDef] at hdef)).def1 (by rintro rfl; simp [isDef] at hdef)
    have hu : u.cells = #[u] := by cases u <;> simp [Value.oneCell'] at h1 <;> rfl
    rw [hu] at hl
    cases k with
    | pair a b => simp [shapeOk] at hs
    | int ik => exact hl.1
    | bool => exact hl.1
    | str => exact hl.1
    | slice e k => exact hl.1
abbrev QT := List V1 → List Ob → Prop
def argsN : List V1 → List (Σ k : K, k.ty) → Prop
  | [], [] => True
  | v :: vs, ⟨k, x⟩ :: xs => (shapeOk k v = true ∧ deep [] k v.ls = some x) ∧ argsN vs xs
  | _, _ => False
theorem args_rel : ∀ {vs : List V1} {xs : List (Σ k : K, k.ty)} {us : List Value}, argsN vs xs → All2 (RelV1 w Ok []) vs us → All2 (RelV1 w Ok []) (xs.map fun x => nfK x.1 x.2) us
  | [], [], _, _, h => h
  | _ :: _, ⟨_, _⟩ :: _, [], _, h => h.elim
  | _ :: _, ⟨_, _⟩ :: _, _ :: _, hn, h => ⟨nf_rel h.1 hn.1.1 hn.1.2, args_rel hn.2 h.2⟩
  | [], _ :: _, _, h, _ => h.elim
  | _ :: _, [], _, h, _ => h.elim
theorem SpecOk.data {f : FuncId} {p q : PT} (hp : SpecOk P f p) (h : ∀ args hp Q, q args hp Q → hp = [] ∧ ∃ xs, argsN args xs ∧ p (xs.map fun x => nfK x.1 x.2) [] Q) : SpecOk P f q := by
  intro args hh K hq w0 Ok0 β0 vals hv hH
  obtain ⟨rfl, xs, hn, hp'⟩ := h args hh K hq
  have hb : β0 = [] := by
    have := hH.objs.length
    exact List.eq_nil_of_length_eq_zero this.symm
  subst hb
  exact hp _ [] K hp' w0 Ok0 [] vals (args_rel hn hv) hH
theorem dK_iff {k : K} {v : V1} {Q : k.ty → Prop} (h : dK k v Q) : ∃ x, (shapeOk k v = true ∧ deep [] k v.ls = some x) ∧ Q x := by
  obtain ⟨h1, h2⟩ := ifK_iff h
  obtain ⟨x, hx, hq⟩ := someK_iff h2
  exact ⟨x, ⟨h1, hx⟩, hq⟩
/-! specs by the number of arguments -/
def S0 (F : QT → Prop) : PT := fun args h Q => match args, h with
  | [], [] => F Q
  | _, _ => False
def S1 (k : K) (F : k.ty → QT → Prop) : PT := fun args h Q => match args, h with
  | [v], [] => dK k v fun x => F x Q
  | _, _ => False
def S2 (k1 k2 : K) (F : k1.ty → k2.ty → QT → Prop) : PT := fun args h Q => match args, h with
  | [v1, v2], [] => dK k1 v1 fun x => dK k2 v2 fun y => F x y Q
  | _, _ => False
def S3 (k1 k2 k3 : K) (F : k1.ty → k2.ty → k3.ty → QT → Prop) : PT := fun args h Q => match args, h with
  | [v1, v2, v3], [] => dK k1 v1 fun x => dK k2 v2 fun y => dK k3 v3 fun z => F x y z Q
  | _, _ => False
def S4 (k1 k2 k3 k4 : K) (F : k1.ty → k2.ty → k3.ty → k4.ty → QT → Prop) : PT := fun args h Q => match args, h with
  | [v1, v2, v3, v4], [] => dK k1 v1 fun x => dK k2 v2 fun y => dK k3 v3 fun z => dK k4 v4 fun u => F x y z u Q
  | _, _ => False
def S5 (k1 k2 k3 k4 k5 : K) (F : k1.ty → k2.ty → k3.ty → k4.ty → k5.ty → QT → Prop) : PT := fun args h Q => match args, h with
  | [v1, v2, v3, v4, v5], [] => dK k1 v1 fun x => dK k2 v2 fun y => dK k3 v3 fun z => dK k4 v4 fun u => dK k5 v5 fun t => F x y z u t Q
  | _, _ => False
variable (hT : ttOk P T = true) (hm : P.follows .mixedOrders = true)
include hT hm
theorem S0.ok {F : QT → Prop} (hE : EnvOk P E) {A : Ann} {f : FuncId} {fn : Func} (hf : P.funcs[f]? = some fn) (h : ∀ Q, F Q → Of (afun T E A fn [] [] Q)) : SpecOk P f (S0 F) := by
  refine (afun_sound hT hE hm (A := A) hf).data fun args hp Q hq => ?_
  unfold S0 at hq
  split at hq
  · exact ⟨rfl, [], trivial, (h Q hq).out⟩
  · exact hq.elim
theorem S1.ok {k : K} {F : k.ty → QT → Prop} (hE : EnvOk P E) {A : Ann} {f : FuncId} {fn : Func} (hf : P.funcs[f]? = some fn) (h : ∀ x Q, F x Q → Of (afun T E A fn [nfK k x] [] Q)) : SpecOk P f (S1 k F) := by
  refine (afun_sound hT hE hm (A := A) hf).data fun args hp Q hq => ?_
  unfold S1 at hq
  split at hq
  · obtain ⟨x, hx, hq⟩ := dK_iff hq
    exact ⟨rfl, [⟨k, x⟩], ⟨hx, trivial⟩, (h x Q hq).out⟩
  · exact hq.elim
theorem S2.ok {k1 k2 : K} {F : k1.ty → k2.ty → QT → Prop} (hE : EnvOk P E) {A : Ann} {f : FuncId} {fn : Func} (hf : P.funcs[f]? = some fn) (h : ∀ x y Q, F x y Q → Of (afun T E A fn [nfK k1 x, nfK k2 y] [] Q)) : SpecOk P f (S2 k1 k2 F) := by
  refine (afun_sound hT hE hm (A := A) hf).data fun args hp Q hq => ?_
  unfold S2 at hq
  split at hq
  · obtain ⟨x, hx, hq⟩ := dK_iff hq
    obtain ⟨y, hy, hq⟩ := dK_iff hq
    exact ⟨rfl, [⟨k1, x⟩, ⟨k2, y⟩], ⟨hx, hy, trivial⟩, (h x y Q hq).out⟩
  · exact hq.elim
theorem S3.ok {k1 k2 k3 : K} {F : k1.ty → k2.ty → k3.ty → QT → Prop} (hE : EnvOk P E) {A : Ann} {f : FuncId} {fn : Func} (hf : P.funcs[f]? = some fn) (h : ∀ x y z Q, F x y z Q → Of (afun T E A fn [nfK k1 x, nfK k2 y, nfK k3 z] [] Q)) :
    SpecOk P f (S3 k1 k2 k3 F) := by
  refine (afun_sound hT hE hm (A := A) hf).data fun args hp Q hq => ?_
  unfold S3 at hq
  split at hq
  · obtain ⟨x, hx, hq⟩ := dK_iff hq
    obtain ⟨y, hy, hq⟩ := dK_iff hq
    obtain ⟨z, hz, hq⟩ := dK_iff hq
    exact ⟨rfl, [⟨k1, x⟩, ⟨k2, y⟩, ⟨k3, z⟩], ⟨hx, hy, hz, trivial⟩, (h x y z Q hq).out⟩
  · exact hq.elim
theorem S4.ok {k1 k2 k3 k4 : K} {F : k1.ty → k2.ty → k3.ty → k4.ty → QT → Prop} (hE : EnvOk P E) {A : Ann} {f : FuncId} {fn : Func} (hf : P.funcs[f]? = some fn)
    (h : ∀ x y z u Q, F x y z u Q → Of (afun T E A fn [nfK k1 x, nfK k2 y, nfK k3 z, nfK k4 u] [] Q)) : SpecOk P f (S4 k1 k2 k3 k4 F) := by
  refine (afun_sound hT hE hm (A := A) hf).data fun args hp Q hq => ?_
  unfold S4 at hq
  split at hq
  · obtain ⟨x, hx, hq⟩ := dK_iff hq
    obtain ⟨y, hy, hq⟩ := dK_iff hq
    obtain ⟨z, hz, hq⟩ := dK_iff hq
    obtain ⟨u, hu, hq⟩ := dK_iff hq
    exact ⟨rfl, [⟨k1, x⟩, ⟨k2, y⟩, ⟨k3, z⟩, ⟨k4, u⟩], ⟨hx, hy, hz, hu, trivial⟩, (h x y z u Q hq).out⟩
  · exact hq.elim
theorem S5.ok {k1 k2 k3 k4 k5 : K} {F : k1.ty → k2.ty → k3.ty → k4.ty → k5.ty → QT → Prop} (hE : EnvOk P E) {A : Ann} {f : FuncId} {fn : Func} (hf : P.funcs[f]? = some fn)
    (h : ∀ x y z u t Q, F x y z u t Q → Of (afun T E A fn [nfK k1 x, nfK k2 y, nfK k3 z, nfK k4 u, nfK k5 t] [] Q)) : SpecOk P f (S5 k1 k2 k3 k4 k5 F) := by
  refine (afun_sound hT hE hm (A := A) hf).data fun args hp Q hq => ?_
  unfold S5 at hq
  split at hq
  · obtain ⟨x, hx, hq⟩ := dK_iff hq
    obtain ⟨y, hy, hq⟩ := dK_iff hq
    obtain ⟨z, hz, hq⟩ := dK_iff hq
    obtain ⟨u, hu, hq⟩ := dK_iff hq
    obtain ⟨t, ht, hq⟩ := dK_iff hq
    exact ⟨rfl, [⟨k1, x⟩, ⟨k2, y⟩, ⟨k3, z⟩, ⟨k4, u⟩, ⟨k5, t⟩], ⟨hx, hy, hz, hu, ht, trivial⟩, (h x y z u t Q hq).out⟩
  · exact hq.elim
omit hT hm
theorem EnvOk.nil : EnvOk P [] := fun _ _ h => by simp [elook] at h
theorem EnvOk.cons {f : FuncId} {p : PT} (h : SpecOk P f p) (he : entersB P f = true) (hE : EnvOk P E) : EnvOk P ((f, p) :: E) := by
  intro g q hq
  simp only [elook] at hq
  split at hq
  · rename_i e; cases hq; subst e; exact ⟨h, he⟩
  · exact hE g q hq
end
/-! ### small words for the plain part -/
theorem wrap_in {x : Int} (h1 : -9223372036854775808 ≤ x) (h2 : x ≤ 9223372036854775807) : IntKind.i64.wrap x = x := by
  rw [IntKind.wrap_i64]; omega
theorem getE_cons (k : K) (l : List k.ty) (i : Nat) (h : i < l.length) : l.drop i = getE k l i :: l.drop (i + 1) := by
  rw [List.drop_eq_getElem_cons h]; simp [getE, List.getD, h]
end Go.AM
