/- Functions of the program: where a jump leads. Conditions: none. -/
import Derived.Test.YtlfelhdcokadbaaB7
set_option linter.all false
namespace Go.AM
open Go.Proofs
-- f42 "busbar/pathmodel.behind" ['24', '3'] -> ['3']
def A42 : Ann := []
def E42 : Env := [(56, sp56), (57, sp57)]
def I42 (p0 : (k23 : K).ty) (p1 : ((.int .i64) : K).ty) : List V1 := [nfK k23 p0, nfK (.int .i64) p1]
def t42 (Q : List V1 → List Ob → Prop) (p0 : K.ty k23) (p1 : K.ty (K.int IntKind.i64)) : Prop :=
  ((0 : Int) ≤ IntKind.wrap IntKind.i64 (p1 + (1 : Int)) ∧ IntKind.wrap IntKind.i64 (p1 + (1 : Int)) ≤ (↑(List.length p0.snd.snd.snd) : Int) ∧ (↑(List.length p0.snd.snd.snd) : Int) ≤ (↑(List.length p0.snd.snd.snd) : Int)) ∧ bound p1 (List.length (Lad.rungs p0)) ∧ List.length (List.drop (Int.toNat (IntKind.wrap IntKind.i64 (p1 + (1 : Int)))) (List.take (Int.toNat (↑(List.length p0.snd.snd.snd) : Int)) p0.snd.snd.snd)) ≤ (4611686018427387904 : Nat) ∧ Q [V1.one (Lf.int IntKind.i64 (IntKind.wrap IntKind.i64 (IntKind.wrap IntKind.i64 (p1 + (1 : Int)) + idxP (fun (r : Rung) => decide (Rung.label r = jumpAt p0 p1)) (List.drop (Int.toNat (IntKind.wrap IntKind.i64 (p1 + (1 : Int)))) (List.take (Int.toNat (↑(List.length p0.snd.snd.snd) : Int)) p0.snd.snd.snd)) (0 : Nat))))] []
theorem t42_mono {Q : List V1 → List Ob → Prop} {Q' : List V1 → List Ob → Prop} (hq : ∀ r h, Q r h → Q' r h) (p0 : K.ty k23) (p1 : K.ty (K.int IntKind.i64)) :
    t42 Q p0 p1 → t42 Q' p0 p1 :=
  andM (andM (id) (andM (id) (id))) (andM (id) (andM (id) (hq _ _)))
theorem t42_eq (Q : List V1 → List Ob → Prop) (p0 : K.ty k23) (p1 : K.ty (K.int IntKind.i64)) :
    t42 Q p0 p1 = (afun tt E42 A42 Try.f42 (I42 p0 p1) [] Q) := by kernel_rfl
def H42 (Q : List V1 → List Ob → Prop) (p0 : K.ty k23) (p1 : K.ty (K.int IntKind.i64)) : Prop := t42 Q p0 p1
theorem ok42 (Q : List V1 → List Ob → Prop) (p0 : K.ty k23) (p1 : K.ty (K.int IntKind.i64)) (h : H42 Q p0 p1) : Of (afun tt E42 A42 Try.f42 (I42 p0 p1) [] Q) :=
  kcO (t42_eq Q p0 p1) (t42_mono (fun _ _ h => h) p0 p1 h)
theorem env42 : EnvOk Try.prog E42 := .cons spec56 (by kernel_rfl) <| .cons spec57 (by kernel_rfl) <| .nil
theorem idxP_bounds (p : Rung → Bool) : ∀ (l : List Rung) (i : Nat), idxP p l i = -1 ∨ ((i : Int) ≤ idxP p l i ∧ idxP p l i < i + l.length)
  | [], _ => .inl rfl
  | r :: l, i => by
    simp only [idxP]
    cases p r with
    | true => right; simp only [cond_true, List.length_cons]; omega
    | false =>
      simp only [cond_false, List.length_cons]
      rcases idxP_bounds p l (i + 1) with h | h
      · exact .inl h
      · right; omega
theorem spec42 : SpecOk Try.prog 42 sp42 := S2.ok tt_ok mixed env42 Try.func42 fun (l : Lad) (i : Int) Q h => ok42 Q l i <| by
  obtain ⟨hb, hl, hq⟩ := h
  have hb1 := hb.1
  have hb2 := hb.2
  have e1 : IntKind.i64.wrap (i + 1) = i + 1 := wrap_in (by omega) (by omega)
  have e2 : List.take l.snd.snd.snd.length l.snd.snd.snd = l.snd.snd.snd := List.take_length
  have hi := idxP_bounds (fun r => decide (Rung.label r = jumpAt l i)) ((Lad.rungs l).drop (i + 1).toNat) 0
  unfold H42 t42
  simp only [e1, Int.toNat_natCast, e2]
  refine ⟨⟨by omega, by show i + 1 ≤ ((Lad.rungs l).length : Int); omega, by omega⟩, hb, by rw [List.length_drop]; show (Lad.rungs l).length - _ ≤ _; omega, ?_⟩
  have hdl : ((Lad.rungs l).drop (i + 1).toNat).length ≤ 1000000 := by rw [List.length_drop]; omega
  rw [wrap_in]
  · exact hq
  · show -9223372036854775808 ≤ i + 1 + idxP (fun r => decide (Rung.label r = jumpAt l i)) ((Lad.rungs l).drop (i + 1).toNat) 0
    omega
  · show i + 1 + idxP (fun r => decide (Rung.label r = jumpAt l i)) ((Lad.rungs l).drop (i + 1).toNat) 0 ≤ _
    omega
end Go.AM
