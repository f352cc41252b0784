/- The law PathmodelRunMatchesReference holds for every input. Conditions: none. -/
import Derived.Test.YtlfelhdcokadbaaRows
import Derived.WalkKit
import Derived.ProofKit
import Derived.OpenShut
import Derived.ShutString
import Derived.ChangeOld
import Derived.Below
import Derived.Carry
import Derived.SizedLaws
import Derived.Test.YtlfelhdcokadbaaM6
set_option linter.all false
namespace Go.Proofs.Ytlfelhdcokadbaa.pathmodelRunMatchesReference
open Go.ChangeShapes Go.WideShapes Go.ChangeAt Go.RowKit Go.AM
theorem own : ownKnob Try.prog.godebug = none := by kernel_rfl
theorem laidOut : laidOutB Try.prog = true := by kernel_rfl
set_option maxRecDepth 100000 in
theorem lifted (os : Os) (started : os.Started) (H : Type) (enc : TypeId × Value → H) :
    ReturnsInHanded {} Try.checked os 6 .any (Rows.pathmodelRunMatchesReferenceSpec.pre6 enc Try.prog Try.f6 Rows.pathmodelRunMatchesReferenceRow.domain false) (Rows.pathmodelRunMatchesReferenceSpec.post enc Try.prog Try.f6 false true false false) := by
  refine returnsInHanded_of_change_sized (C := Try.checked) own started (by kernel_rfl) Try.func6
    (ChangeSpec.witness6 (enc := enc) (C := Try.checked) false ⟨#[], #[.agg #[.int .i64 0, .int .i64 0, .int .i64 0, .slice none 0 0], .agg #[.slice none 0 0, .slice none 0 0, .slice none 0 0], .slice none 0 0], []⟩ 8 (by kernel_rfl) (by kernel_rfl) (by kernel_rfl) (by kernel_rfl)) ?_
  intro W base args ds gs before hval0 hW hcnd hsz0 _
  have hsz : (DataW.weightsEach Try.prog (Try.f6.params.toList ++ Rows.pathmodelRunMatchesReferenceSpec.plain.varTypes Try.prog) (ds ++ gs)).all (· ≤ reachBytes) = true := hsz0
  have hval : ∀ (j : Nat) t v, Try.f6.params[j]? = some t → args[j]? = some v → Value.okWide Try.prog W .any base t v := hval0
  have hW' := hW
  obtain ⟨p, q, hA0, hV, rfl, hfz, hnd⟩ := hW
  have hA : DataW.TrodAll enc Try.prog W 0 (fun _ => true) true Try.f6.params.toList args.toList ds p := hA0
  rw [Try.params6] at hA hval hsz
  obtain ⟨v0, vs0, d0, ds0, p0, q0, hargs, rfl, rfl, h0, r0⟩ := trodAll_cons hA
  obtain ⟨v1, vs1, d1, ds1, p1, q1, rfl, rfl, rfl, h1, r1⟩ := trodAll_cons r0
  obtain ⟨v2, vs2, d2, ds2, p2, q2, rfl, rfl, rfl, h2, r2⟩ := trodAll_cons r1
  obtain ⟨rfl, rfl, rfl⟩ := trodAll_nil r2
  obtain rfl : args = #[v0, v1, v2] := by cases args; simp_all
  obtain ⟨rfl, rfl⟩ := trodVars_none hV
  obtain ⟨c0, hc0, _⟩ := okWide_struct Try.underlying24 (hval 0 24 v0 rfl rfl)
  obtain ⟨c1, hc1, _⟩ := okWide_struct Try.underlying27 (hval 1 27 v1 rfl rfl)
  obtain ⟨a2, n2, m2, hc2⟩ := okWide_slice Try.underlying28 (hval 2 28 v2 rfl rfl)
  obtain ⟨u0, g0⟩ := h0
  obtain ⟨u1, g1⟩ := h1
  obtain ⟨u2, g2⟩ := h2
  obtain ⟨l, hl, hzl⟩ := open_k isK24 g0 (weightsEach_get (j := 0) hsz rfl rfl)
  obtain ⟨st, hst, hzst⟩ := open_k isK27 g1 (weightsEach_get (j := 1) hsz rfl rfl)
  obtain ⟨inp, hinp, hzi⟩ := open_k isK28 g2 (weightsEach_get (j := 2) hsz rfl rfl)
  have b0 : ∀ x ∈ p0, x.block < W.heap.size := DataW.trod_lt u0 _ _ _ g0
  have b1 : ∀ x ∈ p1, x.block < W.heap.size := DataW.trod_lt u1 _ _ _ g1
  have b2 : ∀ x ∈ p2, x.block < W.heap.size := DataW.trod_lt u2 _ _ _ g2
  clear hA0 hval0 hsz0 hsz
  refine (law_calls (W := W) spec6 (vals := [v0, v1, v2]) (args := [nfK k23 l, nfK k26 st, nfK kIns inp]) ⟨rel_pair hc0 hl, rel_pair hc1 hst, rel_slice hc2 hinp, trivial⟩ ?_).mono fun e W' ⟨he, bel⟩ => ?_
  · exact S3_nf28 (law6 l st inp (wide_of hzl) hzst hzi rfl)
  · subst he
    exact ⟨_, rfl, _, _, _, [], _, [], hW', trodAll_mk1 (shut_bool Try.underlying4 _),
      trodAll_cons_mk (Below.trod laidOut (by kernel_rfl) (of_decide_eq_true (by kernel_rfl)) ⟨u0, g0⟩ bel b0) (trodAll_cons_mk (Below.trod laidOut (by kernel_rfl) (of_decide_eq_true (by kernel_rfl)) ⟨u1, g1⟩ bel b1)
        (trodAll_cons_mk (Below.trod laidOut (by kernel_rfl) (of_decide_eq_true (by kernel_rfl)) ⟨u2, g2⟩ bel b2) trodAll_mk0)), rfl, bel.frame _, fun h => by cases h⟩
theorem over : Rows.pathmodelRunMatchesReferenceRow.holds Try.pinned (OpenSpec.ofChange Rows.pathmodelRunMatchesReferenceSpec) :=
  OpenClaim.holds_of_wide 6 Try.f6 rfl rfl rfl rfl rfl rfl rfl ⟨rfl, rfl, rfl, rfl, rfl⟩ rfl rfl rfl rfl rfl (by kernel_rfl) Try.func6 (by kernel_rfl)
    (of_decide_eq_true (by kernel_rfl)) (by unfold Func.isWrapper; first | (rw [if_pos (by decide +kernel)]; kernel_rfl) | (rw [if_neg (by decide +kernel)]; exact ⟨rfl, rfl⟩))
    (fun os started H enc _ => lifted os started H enc)
theorem proved : Rows.PathmodelRunMatchesReferenceSaid := over
#print axioms proved
end Go.Proofs.Ytlfelhdcokadbaa.pathmodelRunMatchesReference
namespace Go.Proofs.Ytlfelhdcokadbaa
/-- The row, under a short name, for the claim. -/
theorem pathmodelRunMatchesReference_holds : Rows.PathmodelRunMatchesReferenceSaid := pathmodelRunMatchesReference.proved
end Go.Proofs.Ytlfelhdcokadbaa
