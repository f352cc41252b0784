/- Functions of the program: questions about rungs. Conditions: none. -/
import Derived.Test.YtlfelhdcokadbaaD1
set_option linter.all false
namespace Go.AM
open Go.Proofs
def A54 : Ann := []
def E54 : Env := []
def I54 (r x : Rung) : List V1 := [nfK k45 r, .one (.rp k45 x 0)]
def t54 (Q : List V1 → List Ob → Prop) (r : Rung) (x : Rung) : Prop :=
  Q [V1.one (Lf.bool (ByteArray.toList r.fst == ByteArray.toList x.fst))] []
theorem t54_mono {Q : List V1 → List Ob → Prop} {Q' : List V1 → List Ob → Prop} (hq : ∀ r h, Q r h → Q' r h) (r : Rung) (x : Rung) :
    t54 Q r x → t54 Q' r x :=
  hq _ _
theorem t54_eq (Q : List V1 → List Ob → Prop) (r : Rung) (x : Rung) :
    t54 Q r x = (afun tt E54 A54 Try.f54 (I54 r x) [] Q) := by kernel_rfl
def H54 (Q : List V1 → List Ob → Prop) (r : Rung) (x : Rung) : Prop := t54 Q r x
theorem ok54 (Q : List V1 → List Ob → Prop) (r : Rung) (x : Rung) (h : H54 Q r x) : Of (afun tt E54 A54 Try.f54 (I54 r x) [] Q) :=
  kcO (t54_eq Q r x) (t54_mono (fun _ _ h => h) r x h)
def t38 (Q : List V1 → List Ob → Prop) (r : Rung) (x : Rung) : Prop :=
  Q [V1.one (Lf.bool (ByteArray.toList r.fst == ByteArray.toList x.snd.snd.snd))] []
theorem t38_mono {Q : List V1 → List Ob → Prop} {Q' : List V1 → List Ob → Prop} (hq : ∀ r h, Q r h → Q' r h) (r : Rung) (x : Rung) :
    t38 Q r x → t38 Q' r x :=
  hq _ _
theorem t38_eq (Q : List V1 → List Ob → Prop) (r : Rung) (x : Rung) :
    t38 Q r x = (afun tt E54 A54 Try.f38 (I54 r x) [] Q) := by kernel_rfl
def H38 (Q : List V1 → List Ob → Prop) (r : Rung) (x : Rung) : Prop := t38 Q r x
theorem ok38 (Q : List V1 → List Ob → Prop) (r : Rung) (x : Rung) (h : H38 Q r x) : Of (afun tt E54 A54 Try.f38 (I54 r x) [] Q) :=
  kcO (t38_eq Q r x) (t38_mono (fun _ _ h => h) r x h)
def I57 (r : Rung) (l : Lad) (at_ : Int) : List V1 := [nfK k45 r, .one (.rp k23 l 0), .one (.rp ki at_ 0)]
def t57 (Q : List V1 → List Ob → Prop) (r : Rung) (l : Lad) (at_ : Int) : Prop :=
  bound at_ (List.length l.snd.snd.snd) ∧ Q [V1.one (Lf.bool (ByteArray.toList r.fst == ByteArray.toList (getE k45 l.snd.snd.snd at_).snd.snd.snd))] []
theorem t57_mono {Q : List V1 → List Ob → Prop} {Q' : List V1 → List Ob → Prop} (hq : ∀ r h, Q r h → Q' r h) (r : Rung) (l : Lad) (at_ : Int) :
    t57 Q r l at_ → t57 Q' r l at_ :=
  andM (id) (hq _ _)
theorem t57_eq (Q : List V1 → List Ob → Prop) (r : Rung) (l : Lad) (at_ : Int) :
    t57 Q r l at_ = (afun tt E54 A54 Try.f57 (I57 r l at_) [] Q) := by kernel_rfl
def H57 (Q : List V1 → List Ob → Prop) (r : Rung) (l : Lad) (at_ : Int) : Prop := t57 Q r l at_
theorem ok57 (Q : List V1 → List Ob → Prop) (r : Rung) (l : Lad) (at_ : Int) (h : H57 Q r l at_) : Of (afun tt E54 A54 Try.f57 (I57 r l at_) [] Q) :=
  kcO (t57_eq Q r l at_) (t57_mono (fun _ _ h => h) r l at_ h)
theorem env54 : EnvOk Try.prog E54 := .nil
theorem atK_iff {k k' : K} {x : k.ty} {Q : k'.ty → Prop} (h : atK k x k' Q) : ∃ e : k = k', Q (e ▸ x) := by
  unfold atK at h
  split at h
  · rename_i e; exact ⟨e, h⟩
  · exact h.elim
theorem spec54 : SpecOk Try.prog 54 sp54 := by
  refine (afun_sound tt_ok env54 mixed (A := A54) Try.func54).data2 fun args hp Q hq => ?_
  unfold sp54 at hq
  split at hq
  · rename_i v k x
    obtain ⟨r, hr, hq⟩ := dK_iff hq
    obtain ⟨e, hq⟩ := atK_iff hq
    subst e
    exact ⟨rfl, [nfK k45 r, .one (.rp k45 x 0)], ⟨.inr ⟨k45, r, hr.1, hr.2, rfl⟩, .inl rfl, trivial⟩, (ok54 Q r x (by show Q _ _; rw [strEq]; exact hq)).out⟩
  · exact hq.elim
theorem spec38 : SpecOk Try.prog 38 sp38 := by
  refine (afun_sound tt_ok env54 mixed (A := A54) Try.func38).data2 fun args hp Q hq => ?_
  unfold sp38 at hq
  split at hq
  · rename_i v k x
    obtain ⟨r, hr, hq⟩ := dK_iff hq
    obtain ⟨e, hq⟩ := atK_iff hq
    subst e
    exact ⟨rfl, [nfK k45 r, .one (.rp k45 x 0)], ⟨.inr ⟨k45, r, hr.1, hr.2, rfl⟩, .inl rfl, trivial⟩, (ok38 Q r x (by show Q _ _; rw [strEq]; exact hq)).out⟩
  · exact hq.elim
theorem spec57 : SpecOk Try.prog 57 sp57 := by
  refine (afun_sound tt_ok env54 mixed (A := A54) Try.func57).data2 fun args hp Q hq => ?_
  unfold sp57 at hq
  split at hq
  · rename_i v k x k2 x2
    obtain ⟨r, hr, hq⟩ := dK_iff hq
    obtain ⟨e, hq⟩ := atK_iff hq
    subst e
    obtain ⟨e, hq⟩ := atK_iff hq
    subst e
    exact ⟨rfl, [nfK k45 r, .one (.rp k23 x 0), .one (.rp ki x2 0)], ⟨.inr ⟨k45, r, hr.1, hr.2, rfl⟩, .inl rfl, .inl rfl, trivial⟩, (ok57 Q r x x2 ⟨hq.1, by rw [strEq]; exact hq.2⟩).out⟩
  · exact hq.elim
end Go.AM
