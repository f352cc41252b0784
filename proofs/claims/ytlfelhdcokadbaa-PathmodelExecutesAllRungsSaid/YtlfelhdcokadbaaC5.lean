/- The scan of a ladder: plain laws. Conditions: none. -/
import Derived.Test.YtlfelhdcokadbaaC2
set_option linter.all false
namespace Go.AM
open Go.Proofs
theorem idxP_hit (p : Rung → Bool) : ∀ (l : List Rung) (i : Nat), 0 ≤ idxP p l i → ∃ k : Nat, k < l.length ∧ idxP p l i = ((i + k : Nat) : Int) ∧ p (getE k45 l k) = true
  | [], i, h => by simp [idxP] at h
  | r :: l, i, h => by
    simp only [idxP] at h ⊢
    cases hp : p r with
    | true => exact ⟨0, by simp, by simp [hp], by simpa [getE] using hp⟩
    | false =>
      rw [hp] at h
      simp only [cond_false] at h ⊢
      obtain ⟨k, h1, h2, h3⟩ := idxP_hit p l (i + 1) h
      refine ⟨k + 1, by simpa using h1, by rw [h2]; congr 1; omega, ?_⟩
      have e : getE k45 (r :: l) ((k + 1 : Nat) : Int) = getE k45 l (k : Int) := by
        have a1 : ((k + 1 : Nat) : Int).toNat = k + 1 := by omega
        have a2 : ((k : Nat) : Int).toNat = k := by omega
        unfold getE
        rw [a1, a2, List.getD_cons_succ]
      rw [e]; exact h3
theorem behind_hit {l : Lad} {i : Nat} (h : (i : Int) < behind l i) : ∃ m : Nat, behind l i = (m : Int) ∧ i < m ∧ m < l.rungs.length ∧ Rung.label (getE k45 l.rungs m) = jumpAt l i := by
  have e : ((i : Int) + 1).toNat = i + 1 := by omega
  unfold behind at h ⊢
  rw [e] at h ⊢
  obtain ⟨k, h1, h2, h3⟩ := idxP_hit (fun r => decide (Rung.label r = jumpAt l i)) (l.rungs.drop (i + 1)) 0 (by omega)
  rw [List.length_drop] at h1
  refine ⟨i + 1 + k, by rw [h2]; omega, by omega, by omega, ?_⟩
  have h3 := of_decide_eq_true h3
  have e2 : getE k45 (l.rungs.drop (i + 1)) (k : Int) = getE k45 l.rungs ((i + 1 + k : Nat) : Int) := by
    have a1 : ((k : Nat) : Int).toNat = k := by omega
    have a2 : ((i + 1 + k : Nat) : Int).toNat = i + 1 + k := by omega
    unfold getE
    rw [a1, a2]
    simp [List.getD]
  rw [e2] at h3
  exact h3
/-- A rung that was executed, the next one not: it jumped. -/
def Jumped (l : Lad) (d : List Bool) (j : Nat) : Prop :=
  ∃ m, j + 1 < m ∧ m < d.length ∧ d.getD m false = true ∧ (∀ t, j < t → t < m → d.getD t false = false) ∧ jumpAt l j ≠ str0 ∧ Rung.label (getE k45 l.rungs m) = jumpAt l j
theorem getD_set (l : List Bool) (i j : Nat) (h : i < l.length) : (l.set i true).getD j false = if i = j then true else l.getD j false := by
  rw [List.getD_eq_getElem?_getD, List.getElem?_set, List.getD_eq_getElem?_getD]
  split
  · rename_i e; subst e; simp [h]
  · rfl
theorem scanGo_did {l : Lad} (hv : Valid l) {inp : List Bool} {s2 : Sta} {d : List Bool} : ∀ (k i : Nat) (s : Sta) (did : List Bool), l.rungs.length - i ≤ k → i ≤ l.rungs.length → did.length = l.rungs.length → (∀ j, i ≤ j → did.getD j false = false) →
    scanGo l inp k i s did = (s2, d, 0) →
    d.length = l.rungs.length ∧ (∀ j, j < i → d.getD j false = did.getD j false) ∧ (i < l.rungs.length → d.getD i false = true) ∧ ∀ j, i ≤ j → j + 1 < l.rungs.length → d.getD j false = true → d.getD (j + 1) false = false → Jumped l d j
  | 0, i, s, did, h1, h2, h3, h4, h => by
    simp only [scanGo] at h
    cases h
    exact ⟨h3, fun _ _ => rfl, fun h => by omega, fun j a b => by omega⟩
  | k + 1, i, s, did, h1, h2, h3, h4, h => by
    simp only [scanGo] at h
    by_cases c : l.rungs.length ≤ i
    · rw [decide_eq_true c] at h
      cases h
      exact ⟨h3, fun _ _ => rfl, fun h => by omega, fun j a b => by omega⟩
    · rw [decide_eq_false c] at h
      simp only [cond_false] at h
      cases he : ((scanR (getE k45 l.rungs i) inp s (getE ki (basesFrom 0 l.rungs) i)).2.2 != 0) with
      | true =>
        rw [he] at h
        simp only [cond_true, Prod.mk.injEq] at h
        rw [h.2.2] at he
        simp at he
      | false =>
        rw [he] at h
        simp only [cond_false] at h
        have hnx : i < nextR l i (scanR (getE k45 l.rungs i) inp s (getE ki (basesFrom 0 l.rungs) i)).2.1 ∧ nextR l i (scanR (getE k45 l.rungs i) inp s (getE ki (basesFrom 0 l.rungs) i)).2.1 ≤ l.rungs.length ∧
            (nextR l i (scanR (getE k45 l.rungs i) inp s (getE ki (basesFrom 0 l.rungs) i)).2.1 ≠ i + 1 → jumpAt l i ≠ str0 ∧ nextR l i (scanR (getE k45 l.rungs i) inp s (getE ki (basesFrom 0 l.rungs) i)).2.1 < l.rungs.length ∧
              Rung.label (getE k45 l.rungs (nextR l i (scanR (getE k45 l.rungs i) inp s (getE ki (basesFrom 0 l.rungs) i)).2.1)) = jumpAt l i) := by
          generalize (scanR (getE k45 l.rungs i) inp s (getE ki (basesFrom 0 l.rungs) i)).2.1 = on
          unfold nextR
          cases hc : (on && !decide (jumpAt l i = str0)) with
          | false => exact ⟨by simp only [cond_false]; omega, by simp only [cond_false]; omega, fun h => absurd rfl h⟩
          | true =>
            simp only [cond_true]
            have hj : jumpAt l i ≠ str0 := by simp at hc; exact hc.2
            have hb := hv.jump i (by omega) hj
            obtain ⟨m, hm1, hm2, hm3, hm4⟩ := behind_hit hb.1
            rw [hm1, Int.toNat_natCast]
            exact ⟨hm2, by omega, fun _ => ⟨hj, hm3, hm4⟩⟩
        revert hnx h
        generalize nextR l i (scanR (getE k45 l.rungs i) inp s (getE ki (basesFrom 0 l.rungs) i)).2.1 = i'
        intro h ⟨n1, n2, n3⟩
        obtain ⟨a1, a2, a3, a4⟩ := scanGo_did hv k i' _ (did.set i true) (by omega) n2 (by rw [List.length_set]; exact h3) (fun j hj => by rw [getD_set _ _ _ (by omega), if_neg (by omega)]; exact h4 j (by omega)) h
        have b0 : ∀ j, j < i → d.getD j false = did.getD j false := fun j hj => by rw [a2 j (by omega), getD_set _ _ _ (by omega), if_neg (by omega)]
        have b1 : d.getD i false = true := by rw [a2 i n1, getD_set _ _ _ (by omega), if_pos rfl]
        have b2 : ∀ t, i < t → t < i' → d.getD t false = false := fun t ht ht' => by rw [a2 t ht', getD_set _ _ _ (by omega), if_neg (by omega)]; exact h4 t (by omega)
        refine ⟨a1, b0, fun _ => b1, fun j hj hj1 hd hd1 => ?_⟩
        by_cases e : j = i
        · subst e
          by_cases e2 : i' = j + 1
          · subst e2
            rw [a3 hj1] at hd1
            cases hd1
          · obtain ⟨c1, c2, c3⟩ := n3 e2
            exact ⟨i', by omega, by omega, a3 c2, b2, c1, c3⟩
        · by_cases e3 : j < i'
          · rw [b2 j (by omega) e3] at hd
            cases hd
          · exact a4 j (by omega) hj1 hd hd1
theorem scanL_zero {l : Lad} {inp : List Bool} {st : Sta} (h : (scanL l inp st).2.2 = 0) :
    (checkL l).2 = 0 ∧ (inp.length : Int) = l.1 ∧ fits (sizeE l) st = true ∧ scanL l inp st = scanGo l inp l.rungs.length 0 st (List.replicate l.rungs.length false) := by
  unfold scanL at h ⊢
  cases h1 : ((checkL l).2 != 0) with
  | true => rw [h1] at h; simp only [cond_true] at h; rw [h] at h1; simp at h1
  | false =>
    rw [h1] at h
    simp only [cond_false] at h ⊢
    cases h2 : (!decide ((inp.length : Int) = l.1) || !fits (sizeE l) st) with
    | true => rw [h2] at h; simp at h
    | false => simp at h1 h2; exact ⟨h1, h2.1, h2.2, rfl⟩
/-- What a scan without a fault tells. -/
theorem scanL_did {l : Lad} {inp : List Bool} {st : Sta} (h : (scanL l inp st).2.2 = 0) :
    (scanL l inp st).2.1.length = l.rungs.length ∧ l.rungs.length ≤ 64 ∧ (0 < l.rungs.length → (scanL l inp st).2.1.getD 0 false = true) ∧
      ∀ j, j + 1 < l.rungs.length → (scanL l inp st).2.1.getD j false = true → (scanL l inp st).2.1.getD (j + 1) false = false → Jumped l (scanL l inp st).2.1 j := by
  obtain ⟨h1, h2, h3, h4⟩ := scanL_zero h
  have hv := valid_of h1
  have e : scanGo l inp l.rungs.length 0 st (List.replicate l.rungs.length false) = ((scanL l inp st).1, (scanL l inp st).2.1, 0) := by
    rw [← h4, ← h]
  obtain ⟨a1, _, a3, a4⟩ := scanGo_did hv _ 0 st _ (by omega) (by omega) (by simp) (fun j _ => by simp [List.getD_eq_getElem?_getD, List.getElem?_replicate]; split <;> rfl) e
  exact ⟨a1, hv.len, a3, fun j => a4 j (by omega)⟩
end Go.AM
