/- What the laws' rows have in common: their arguments opened, their calls. Conditions: none. -/
import Derived.Test.YtlfelhdcokadbaaR0
import Derived.Test.YtlfelhdcokadbaaD2
import Derived.Below
set_option linter.all false
namespace Go.AM
open Go.RowKit Go.ChangeShapes Go.WideShapes Go.Proofs
theorem isK3 : IsK Try.prog 3 ki := .int Try.underlying3
theorem isK9 : IsK Try.prog 9 .str := .str Try.underlying9
theorem isK4 : IsK Try.prog 4 .bool := .bool Try.underlying4
theorem isK25 : IsK Try.prog 25 kbs := .slice Try.underlying25 (by kernel_rfl) (of_decide_eq_true (by kernel_rfl)) isK4
theorem isK28 : IsK Try.prog 28 kIns := .slice Try.underlying28 (by kernel_rfl) (of_decide_eq_true (by kernel_rfl)) isK25
theorem isK27 : IsK Try.prog 27 k26 := .struct Try.underlying27 (by kernel_rfl) (.cons rfl (by kernel_rfl) isK25 (.cons rfl (by kernel_rfl) isK25 (.one rfl (by kernel_rfl) isK25)))
theorem isK73 : IsK Try.prog 73 k72 := .struct Try.underlying73 (by kernel_rfl) (.cons rfl (by kernel_rfl) isK3 (.one rfl (by kernel_rfl) isK3))
theorem isK75 : IsK Try.prog 75 k74 := .struct Try.underlying75 (by kernel_rfl) (.cons rfl (by kernel_rfl) isK3 (.cons rfl (by kernel_rfl) isK73 (.cons rfl (by kernel_rfl) isK9 (.one rfl (by kernel_rfl) isK9))))
theorem isK77 : IsK Try.prog 77 k76 := .struct Try.underlying77 (by kernel_rfl) (.cons rfl (by kernel_rfl) isK3 (.one rfl (by kernel_rfl) isK73))
theorem isK43 : IsK Try.prog 43 (.slice 75 k74) := .slice Try.underlying43 (by kernel_rfl) (of_decide_eq_true (by kernel_rfl)) isK75
theorem isK44 : IsK Try.prog 44 (.slice 77 k76) := .slice Try.underlying44 (by kernel_rfl) (of_decide_eq_true (by kernel_rfl)) isK77
theorem isK46 : IsK Try.prog 46 k45 := .struct Try.underlying46 (by kernel_rfl) (.cons rfl (by kernel_rfl) isK9 (.cons rfl (by kernel_rfl) isK43 (.cons rfl (by kernel_rfl) isK44 (.one rfl (by kernel_rfl) isK9))))
theorem isK22 : IsK Try.prog 22 kR := .slice Try.underlying22 (by kernel_rfl) (of_decide_eq_true (by kernel_rfl)) isK46
theorem isK24 : IsK Try.prog 24 k23 := .struct Try.underlying24 (by kernel_rfl) (.cons rfl (by kernel_rfl) isK3 (.cons rfl (by kernel_rfl) isK3 (.cons rfl (by kernel_rfl) isK3 (.one rfl (by kernel_rfl) isK22))))
theorem dk23 (x : k23.ty) (Q : k23.ty → Prop) : dK k23 (nfK k23 x) Q = Q x := by kernel_rfl
theorem dk26 (x : k26.ty) (Q : k26.ty → Prop) : dK k26 (nfK k26 x) Q = Q x := by kernel_rfl
theorem dkbs (x : kbs.ty) (Q : kbs.ty → Prop) : dK kbs (nfK kbs x) Q = Q x := by kernel_rfl
theorem dkIns (x : kIns.ty) (Q : kIns.ty → Prop) : dK kIns (nfK kIns x) Q = Q x := by kernel_rfl
theorem S3_nf25 {F : k23.ty → k26.ty → kbs.ty → QT → Prop} {l : k23.ty} {st : k26.ty} {inp : kbs.ty} {Q : QT} (h : F l st inp Q) : S3 k23 k26 kbs F [nfK k23 l, nfK k26 st, nfK kbs inp] [] Q := by
  have e : S3 k23 k26 kbs F [nfK k23 l, nfK k26 st, nfK kbs inp] [] Q = dK k23 (nfK k23 l) (fun x => dK k26 (nfK k26 st) fun y => dK kbs (nfK kbs inp) fun z => F x y z Q) := rfl
  rw [e, dk23, dk26, dkbs]; exact h
theorem S3_nf28 {F : k23.ty → k26.ty → kIns.ty → QT → Prop} {l : k23.ty} {st : k26.ty} {inp : kIns.ty} {Q : QT} (h : F l st inp Q) : S3 k23 k26 kIns F [nfK k23 l, nfK k26 st, nfK kIns inp] [] Q := by
  have e : S3 k23 k26 kIns F [nfK k23 l, nfK k26 st, nfK kIns inp] [] Q = dK k23 (nfK k23 l) (fun x => dK k26 (nfK k26 st) fun y => dK kIns (nfK kIns inp) fun z => F x y z Q) := rfl
  rw [e, dk23, dk26, dkIns]; exact h
theorem wide_of {l : k23.ty} (h : SzK k23 l) : wideL l := by
  obtain ⟨_, _, _, h1, h2⟩ := h
  refine ⟨Nat.le_trans h1 (by omega), fun r hr => ?_⟩
  obtain ⟨_, h3, _⟩ := h2 r hr
  exact Nat.le_trans h3.1 (by omega)
section
variable {P : Program} {W : World} {Ok : Nat → Prop}
theorem rel_pair {a b : K} {y : (K.pair a b).ty} {v : Value} {cs : Array Value} (hv : v = .agg cs) (h : RdC W Ok (.pair a b) y v.cells.toList) : RelV1 W Ok [] (nfK (.pair a b) y) v := by
  subst hv
  exact ⟨cs, rfl, leaves_rel h⟩
theorem rel_slice {e : TypeId} {k : K} {l : List k.ty} {v : Value} {a : Option Addr} {n c : Nat} (hv : v = .slice a n c) (h : RdC W Ok (.slice e k) l v.cells.toList) : RelV1 W Ok [] (nfK (.slice e k) l) v := by
  subst hv
  obtain ⟨u, hu, h⟩ := h
  have hc : (Value.slice a n c).cells.toList = [.slice a n c] := rfl
  rw [hc] at hu
  cases hu
  exact h
theorem weightsEach_get {H : Type} : ∀ {ts : List TypeId} {ds : List (DataW H)} {j : Nat} {t : TypeId} {d : DataW H}, (DataW.weightsEach P ts ds).all (· ≤ reachBytes) = true → ts[j]? = some t → ds[j]? = some d → (d.weights P t).all (· ≤ reachBytes) = true
  | [], _, _, _, _, _, ht, _ => by simp at ht
  | _ :: _, [], _, _, _, _, _, hd => by simp at hd
  | t :: ts, d :: ds, 0, _, _, h, ht, hd => by
    simp at ht hd; subst ht hd
    rw [DataW.weightsEach] at h
    exact (all_left h).1
  | t :: ts, d :: ds, j + 1, _, _, h, ht, hd => by
    rw [DataW.weightsEach] at h
    exact weightsEach_get (all_left h).2 (by simpa using ht) (by simpa using hd)
/-- A law's call, out of its function's spec. -/
theorem law_calls {f : FuncId} {p : PT} (hp : SpecOk P f p) {vals : List Value} {args : List V1} (hargs : All2 (RelV1 W (InW W) []) args vals) (h : p args [] fun res _ => res = [.one (.bool true)]) :
    Calls P f vals.toArray W fun e W' => e = .returned (.bool true) ∧ Below W.heap.size W W' := by
  refine Calls.mono (hp args [] _ h W (InW W) [] vals hargs ⟨trivial, fun i j v u g hi => by simp at hi, fun v g hv => by simp at hv, fun g hg => hg, fun v g hv => by simp at hv⟩) fun e W' he => ?_
  cases e with
  | returned v =>
    obtain ⟨res, h', Ok', β', rfl, hret, hrel⟩ := he
    have hv : v = .bool true := hret
    exact ⟨by rw [hv], hrel.fr.os, hrel.fr.tape, hrel.fr.output, hrel.fr.size, fun g hg => hrel.fr.block g ⟨hg, fun v hv => by simp at hv⟩⟩
  | _ => exact he.elim
end
end Go.AM
