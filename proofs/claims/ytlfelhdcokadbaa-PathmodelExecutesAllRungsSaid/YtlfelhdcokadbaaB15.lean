/- Functions of the program: a rung's scan. Conditions: none. -/
import Derived.Test.YtlfelhdcokadbaaB12
import Derived.Test.YtlfelhdcokadbaaB13
import Derived.Test.YtlfelhdcokadbaaB14
set_option linter.all false
namespace Go.AM
open Go.Proofs
-- f27 "busbar/rungeval.Scan" ['46', '25', '27', '3'] -> ['27', '4', '32']
def A27 : Ann := []
def E27 : Env := [(43, sp43), (44, sp44), (45, sp45)]
def I27 (p0 : (k45 : K).ty) (p1 : ((.slice 4 .bool) : K).ty) (p2 : (k26 : K).ty) (p3 : ((.int .i64) : K).ty) : List V1 := [nfK k45 p0, nfK (.slice 4 .bool) p1, nfK k26 p2, nfK (.int .i64) p3]
def t27 (Q : List V1 → List Ob → Prop) (p0 : K.ty k45) (p1 : K.ty (K.slice (4 : TypeId) K.bool)) (p2 : K.ty k26) (p3 : K.ty (K.int IntKind.i64)) : Prop :=
  (small p2 ∧ List.length (Rung.contacts p0) ≤ (1000000 : Nat)) ∧ brP ((contactsR p0 p1 p2 p3).snd.snd != (0 : Int)) (Q [V1.agg [Lf.nils, Lf.nils, Lf.nils], V1.one (Lf.bool false), V1.one (Lf.int IntKind.i64 (contactsR p0 p1 p2 p3).snd.snd)] []) (List.length (Rung.contacts p0) ≤ (1000000 : Nat) ∧ brP ((conductsR p0 (contactsR p0 p1 p2 p3).fst).snd != (0 : Int)) (Q [V1.agg [Lf.nils, Lf.nils, Lf.nils], V1.one (Lf.bool false), V1.one (Lf.int IntKind.i64 (conductsR p0 (contactsR p0 p1 p2 p3).fst).snd)] []) ((small (contactsR p0 p1 p2 p3).snd.fst ∧ List.length (Rung.coils p0) ≤ (1000000 : Nat)) ∧ brP ((coilGo (conductsR p0 (contactsR p0 p1 p2 p3).fst).fst (Rung.coils p0) (contactsR p0 p1 p2 p3).snd.fst).snd != (0 : Int)) (Q [V1.agg [Lf.nils, Lf.nils, Lf.nils], V1.one (Lf.bool false), V1.one (Lf.int IntKind.i64 (coilGo (conductsR p0 (contactsR p0 p1 p2 p3).fst).fst (Rung.coils p0) (contactsR p0 p1 p2 p3).snd.fst).snd)] []) (Q [V1.agg [Lf.sl (4 : TypeId) K.bool (coilGo (conductsR p0 (contactsR p0 p1 p2 p3).fst).fst (Rung.coils p0) (contactsR p0 p1 p2 p3).snd.fst).fst.fst, Lf.sl (4 : TypeId) K.bool (coilGo (conductsR p0 (contactsR p0 p1 p2 p3).fst).fst (Rung.coils p0) (contactsR p0 p1 p2 p3).snd.fst).fst.snd.fst, Lf.sl (4 : TypeId) K.bool (coilGo (conductsR p0 (contactsR p0 p1 p2 p3).fst).fst (Rung.coils p0) (contactsR p0 p1 p2 p3).snd.fst).fst.snd.snd], V1.one (Lf.bool (conductsR p0 (contactsR p0 p1 p2 p3).fst).fst), V1.one (Lf.int IntKind.i64 (0 : Int))] [])))
theorem t27_mono {Q : List V1 → List Ob → Prop} {Q' : List V1 → List Ob → Prop} (hq : ∀ r h, Q r h → Q' r h) (p0 : K.ty k45) (p1 : K.ty (K.slice (4 : TypeId) K.bool)) (p2 : K.ty k26) (p3 : K.ty (K.int IntKind.i64)) :
    t27 Q p0 p1 p2 p3 → t27 Q' p0 p1 p2 p3 :=
  andM (andM (id) (id)) (brM (hq _ _) (andM (id) (brM (hq _ _) (andM (andM (id) (id)) (brM (hq _ _) (hq _ _))))))
theorem t27_eq (Q : List V1 → List Ob → Prop) (p0 : K.ty k45) (p1 : K.ty (K.slice (4 : TypeId) K.bool)) (p2 : K.ty k26) (p3 : K.ty (K.int IntKind.i64)) :
    t27 Q p0 p1 p2 p3 = (afun tt E27 A27 Try.f27 (I27 p0 p1 p2 p3) [] Q) := by kernel_rfl
def H27 (Q : List V1 → List Ob → Prop) (p0 : K.ty k45) (p1 : K.ty (K.slice (4 : TypeId) K.bool)) (p2 : K.ty k26) (p3 : K.ty (K.int IntKind.i64)) : Prop := t27 Q p0 p1 p2 p3
theorem ok27 (Q : List V1 → List Ob → Prop) (p0 : K.ty k45) (p1 : K.ty (K.slice (4 : TypeId) K.bool)) (p2 : K.ty k26) (p3 : K.ty (K.int IntKind.i64)) (h : H27 Q p0 p1 p2 p3) : Of (afun tt E27 A27 Try.f27 (I27 p0 p1 p2 p3) [] Q) :=
  kcO (t27_eq Q p0 p1 p2 p3) (t27_mono (fun _ _ h => h) p0 p1 p2 p3 h)
theorem env27 : EnvOk Try.prog E27 := .cons spec43 (by kernel_rfl) <| .cons spec44 (by kernel_rfl) <| .cons spec45 (by kernel_rfl) <| .nil
theorem conGo_len (inp : List Bool) (st : Sta) : ∀ (cs : List Con) (slot : Int) (e on : List Bool), (conGo inp st cs slot e on).2.1.length ≤ e.length
  | [], slot, e, on => Nat.le_refl _
  | c :: r, slot, e, on => by
    simp only [conGo]
    cases decide (c.1 < 0) <;> cases decide (c.1 ≥ 4) <;> cases (readS inp st c.2.1).2 != 0 <;> cases isEdge c <;> cases decide (slot < 0) <;> cases decide (slot ≥ (e.length : Int)) <;>
      simp only [cond_true, cond_false] <;> first
        | exact Nat.zero_le _
        | exact conGo_len inp st r slot e _
        | exact Nat.le_trans (conGo_len inp st r _ _ _) (by rw [List.length_set]; exact Nat.le_refl _)
theorem small_contacts {st : Sta} (h : small st) (r : Rung) (inp : List Bool) (slot : Int) : small (contactsR r inp st slot).2.1 := by
  have := conGo_len inp st r.contacts slot st.2.2 []
  unfold contactsR
  cases (conGo inp st r.contacts slot st.2.2 []).2.2 != 0 with
  | true => exact small_zero
  | false => exact ⟨h.1, h.2.1, Nat.le_trans this h.2.2⟩
theorem spec27 : SpecOk Try.prog 27 sp27 := S4.okS tt_ok mixed [k26, .bool, ki] env27 Try.func27 fun (r : Rung) (inp : List Bool) (st : Sta) (slot : Int) Q h => ok27 _ r inp st slot <| by
  obtain ⟨⟨hs, hc, hk⟩, h⟩ := h
  unfold scanR at h
  refine ⟨⟨hs, hc⟩, ?_⟩
  refine brP_intro (fun a => by simp only [a, cond_true] at h; exact h) (fun a => ⟨hc, ?_⟩)
  refine brP_intro (fun b => by simp only [a, b, cond_true, cond_false] at h; exact h) (fun b => ⟨⟨small_contacts hs r inp slot, hk⟩, ?_⟩)
  refine brP_intro (fun c => by simp only [a, b, c, cond_true, cond_false] at h; exact h) (fun c => by simp only [a, b, c, cond_false] at h; exact h)
end Go.AM
