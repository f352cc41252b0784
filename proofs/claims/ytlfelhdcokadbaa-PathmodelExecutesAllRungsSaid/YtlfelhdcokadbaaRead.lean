/- The abstract machine: the operations that only read. Conditions: none. -/
import Derived.Test.YtlfelhdcokadbaaType
set_option linter.all false
namespace Go.AM
open Go.RowKit

/-- What stood there stands. -/
structure Grow (w w' : World) : Prop where
  size : w.heap.size ≤ w'.heap.size
  block : ∀ g, g < w.heap.size → w'.heap[g]? = w.heap[g]?
theorem Grow.refl (w : World) : Grow w w := ⟨Nat.le_refl _, fun _ _ => rfl⟩
theorem Grow.trans {a b c : World} (h : Grow a b) (k : Grow b c) : Grow a c := ⟨Nat.le_trans h.size k.size, fun g hg => (k.block g (Nat.lt_of_lt_of_le hg h.size)).trans (h.block g hg)⟩
theorem Grow.alloc (w : World) (o : Obj) : Grow w (w.alloc o) := ⟨by simp, fun g hg => heap_alloc_old w o g hg⟩
section
variable {P : Program} {T : TT}
theorem run_info {t : TypeId} {i : TypeInfo} (h : P.info? t = some i) (w : World) : (typeInfo t).run P w = .ok i w := by simp [typeInfo, h]
theorem run_sizeOf {t : TypeId} {i : TypeInfo} (h : P.info? t = some i) (w : World) : (sizeOf t).run P w = .ok i.size w := by simp [sizeOf, run_info h]
theorem run_isAgg {t : TypeId} {d : TypeDesc} (h : P.underlying t = some d) (w : World) : (isAgg t).run P w = .ok (aggOf d) w := by
  unfold isAgg
  rw [Sem.run_bind, run_underlying h w]
  cases d <;> simp [aggOf]
/-- What is read at the head of some cells. -/
def rdV (ag : Bool) (n : Nat) (us : List Value) : Value :=
  match ag with
  | true => .agg (us.take n).toArray
  | false => us.headD undef
theorem run_loadVar_at {t : TypeId} {pi : TypeInfo} {d : TypeDesc} (hi : P.info? t = some pi) (hu : P.underlying t = some d) {w : World} {g off : Nat} {cur : Array Value} {e : TypeId} {fr : Nat × Nat}
    (hg : w.heap[g]? = some (.cells cur e fr)) (hl : off + pi.size ≤ cur.size) (h1 : aggOf d = false → 0 < pi.size) :
    (loadVar t ⟨g, off, none⟩).run P w = .ok (rdV (aggOf d) pi.size (cur.toList.drop off)) w := by
  unfold loadVar
  rw [Sem.run_bind, run_isAgg hu]
  cases hd : aggOf d with
  | true =>
    have hll : ((cur.toList.drop off).take pi.size).length = pi.size := by simp; omega
    have := run_loadCells_list (P := P) w ⟨g, off, none⟩ ((cur.toList.drop off).take pi.size) (fun j v hv => by
      rw [Addr.add_lit, cell_of_row w g _ cur e fr hg]
      rw [List.getElem?_take] at hv
      split at hv
      · simpa using hv
      · cases hv)
    rw [hll] at this
    simp [run_sizeOf hi, this, rdV]
  | false =>
    have hlt : off < cur.size := by have := h1 hd; omega
    have hc : w.cell? ⟨g, off, none⟩ = some cur[off] := by rw [cell_of_row w g off cur e fr hg]; simp [hlt]
    have hh : (cur.toList.drop off).headD undef = cur[off] := by
      rw [List.drop_eq_getElem_cons (by simpa using hlt)]; simp
    simp [rdV, Result.andThen, run_load, hc, hlt]
theorem run_part_at {t : TypeId} {pi : TypeInfo} {d : TypeDesc} (hi : P.info? t = some pi) (hu : P.underlying t = some d) {w : World} {cs : Array Value} {off : Nat} (h1 : aggOf d = false → off < cs.size) :
    (part t cs off).run P w = .ok (rdV (aggOf d) pi.size (cs.toList.drop off)) w := by
  unfold part
  rw [Sem.run_bind, run_isAgg hu]
  cases hd : aggOf d with
  | true =>
    have : cs.extract off (off + pi.size) = ((cs.toList.drop off).take pi.size).toArray := by
      apply Array.ext'
      simp [List.extract_eq_take_drop]
    simp [run_sizeOf hi, rdV, this]
  | false =>
    have hlt := h1 hd
    have hh : (cs.toList.drop off).headD undef = cs[off] := by
      rw [List.drop_eq_getElem_cons (by simpa using hlt)]; simp
    simp [rdV, hlt, hh, Result.andThen]
end
section
variable {P : Program} {T : TT} {w : World} {Ok : Nat → Prop} {β : List Value}
theorem TiFacts.size1 {t : TypeId} {i : TI} {pi : TypeInfo} {d : TypeDesc} {z : Value} (f : TiFacts P t i pi d z) (h : aggOf d = false) : i.zero.length = 1 := by
  have hz := f.zeroA
  rw [← f.agg, h] at hz
  have hl := (f.zeroR default (fun _ => True) []).length
  rw [hl]
  cases z <;> simp [isAggV] at hz <;> rfl
theorem shapeV_sound {i : TI} {cs : List Lf} {us : List Value} {Q : V1 → Prop} (h : shapeV i cs Q) (hr : All2 (RelL w Ok β) cs us) : ∃ x, Q x ∧ RelV1 w Ok β x (rdV i.agg i.zero.length us) := by
  unfold shapeV at h
  cases hi : i.agg with
  | true =>
    rw [hi] at h
    refine ⟨_, h, (us.take i.zero.length).toArray, rfl, ?_⟩
    simpa [cutL] using hr.take i.zero.length
  | false =>
    rw [hi] at h
    cases cs with
    | nil => exact h.elim
    | cons c cs =>
      cases us with
      | nil => exact hr.elim
      | cons u us => exact ⟨_, h, RelV1.of hr.1⟩
theorem loadK_sound (hT : ttOk P T = true) {st : St} (r : RelH w Ok β st.heap) {t : TypeId} {p : Lf} {v : Value} {Q : V1 → Prop} (h : loadK T st t p Q) (hp : RelV1 w Ok β (.one p) v) :
    ∃ x u, Q x ∧ RelV1 w Ok β x u ∧ ∀ w' : World, Grow w w' → (Instr.loadAt t v).run P w' = .ok u w' := by
  obtain ⟨i, hi, h⟩ := someK_iff h
  obtain ⟨pi, d, z, f⟩ := ti_facts hT hi
  have go : ∀ (g off : Nat) (cur : Array Value) (e : TypeId) (fr : Nat × Nat) (cs : List Lf), v = .pointer (some ⟨g, off, none⟩) → w.heap[g]? = some (.cells cur e fr) → off + i.zero.length ≤ cur.size →
      shapeV i cs Q → ∀ n, All2 (RelL w Ok β) cs ((cur.toList.drop off).take n) → i.zero.length ≤ n →
      ∃ x u, Q x ∧ RelV1 w Ok β x u ∧ ∀ w' : World, Grow w w' → (Instr.loadAt t v).run P w' = .ok u w' := by
    intro g off cur e fr cs hv hg hl hs n hr hn
    obtain ⟨x, hq, hx⟩ := shapeV_sound hs hr
    refine ⟨x, _, hq, hx, fun w' hw => ?_⟩
    have h1 : aggOf d = false → 0 < pi.size := fun h => by rw [f.size, f.size1 h]; exact Nat.one_pos
    have hrun := run_loadVar_at (P := P) f.info f.und (w := w') (g := g) (off := off) (by rw [hw.block g (Array.getElem?_eq_some_iff.1 hg).1]; exact hg) (by rw [f.size]; exact hl) h1
    have e : rdV (aggOf d) pi.size (cur.toList.drop off) = rdV i.agg i.zero.length ((cur.toList.drop off).take n) := by
      rw [f.agg, f.size]
      cases hag : i.agg with
      | true => simp [rdV, List.take_take, Nat.min_eq_left hn]
      | false =>
        have : i.zero.length = 1 := f.size1 (by rw [f.agg, hag])
        simp only [rdV]
        cases hd : cur.toList.drop off with
        | nil => simp
        | cons a b =>
          cases n with
          | zero => omega
          | succ n => simp
    rw [← e]
    simp [hv, Instr.loadAt, Instr.sureAddr, hrun]
  cases p with
  | ptr id off =>
    obtain ⟨o, ho, h⟩ := getK_iff h
    obtain ⟨b, hb, hro⟩ := r.obj ho
    cases o with
    | box bt cs =>
      obtain ⟨hle, h2⟩ := ifK_iff h
      obtain ⟨g, cur, hbv, hg, hcs⟩ := hro
      obtain ⟨g', hb', hv⟩ := hp
      rw [hb, hbv] at hb'
      obtain rfl : g = g' := by cases hb'; rfl
      have hle := Nat.le_of_ble_eq_true hle
      have hlen : cs.length = cur.size := by simpa using All2.length hcs
      have hd := hcs.drop off
      refine go g off cur bt (0, 0) (cs.drop off) hv hg (by omega) h2 (cur.size - off) ?_ (by omega)
      rw [List.take_of_length_le (by simp)]
      exact hd
    | _ => exact h.elim
  | ept id n sz off =>
    obtain ⟨o, ho, h⟩ := getK_iff h
    obtain ⟨b, hb, hro⟩ := r.obj ho
    cases o with
    | row e k l =>
      obtain ⟨hc, h2⟩ := ifK_iff h
      simp only [Bool.and_eq_true] at hc
      have hsz : sz = k.sz := Nat.eq_of_beq_eq_true hc.1
      have hle := Nat.le_of_ble_eq_true hc.2
      obtain ⟨xs, hown, hrow⟩ := hro
      obtain ⟨g, o0, m, c, hb', hn0, hnm, hv⟩ := hp
      rw [hb] at hb'
      cases hb'
      rcases hown.2 with ⟨hv', _⟩ | ⟨g', o1, cap, cur, hv', hg, hnc, _, hcs, htake⟩
      · cases hv'
      · cases hv'
        subst hsz
        have hlt : n.toNat < l.length := by omega
        have hget : l[n.toNat]? = some (getE k l n) := by
          simp [getE, List.getD, List.getElem?_eq_getElem hlt]
        have hx := hrow.get hget
        have hlv := leaves_rel (β := β) hx
        have hmul : n.toNat * k.sz + k.sz ≤ l.length * k.sz := by
          have : (n.toNat + 1) * k.sz ≤ l.length * k.sz := Nat.mul_le_mul_right _ hlt
          rw [Nat.add_mul, Nat.one_mul] at this; exact this
        have hcap : o0 + l.length * k.sz ≤ cur.size := by have : l.length * k.sz ≤ c * k.sz := Nat.mul_le_mul_right _ hnc; omega
        refine go g (o0 + n.toNat * k.sz + off) cur e (0, 0) _ hv hg (by omega) h2 (k.sz - off) ?_ (by omega)
        have := hlv.drop off
        have e2 : List.drop off (List.take k.sz (List.drop (n.toNat * k.sz) xs)) = ((cur.toList.drop (o0 + n.toNat * k.sz + off)).take (k.sz - off)) := by
          rw [List.drop_take, List.drop_drop, ← htake, List.drop_take, List.take_take, List.drop_drop, Nat.add_assoc o0]
          congr 1
          omega
        rw [e2] at this
        exact this
    | _ => exact h.elim
  | rp k x off =>
    obtain ⟨hle, h⟩ := ifK_iff h
    have hle := Nat.le_of_ble_eq_true hle
    obtain ⟨g, o, cur, e, fr, hv, _, hg, hsz, hx⟩ := hp
    refine go g (o + off) cur e fr _ hv hg (by omega) h (k.sz - off) ?_ (by omega)
    have := (leaves_rel (β := β) hx).drop off
    rw [List.drop_take, List.drop_drop] at this
    exact this
  | _ => exact h.elim

/-! ### parts filled in -/
theorem putL_cons {l : List Value} {p : Nat} {v : Value} {vs : List Value} (h : p < l.length) : putL (l.set p v) (p + 1) vs = putL l p (v :: vs) := by
  unfold putL
  have e1 : (l.set p v).take (p + 1) = l.take p ++ [v] := by
    rw [List.take_add_one, List.take_set_of_le (Nat.le_refl p)]
    simp [h]
  have e2 : (l.set p v).drop (p + 1 + vs.length) = l.drop (p + (v :: vs).length) := by
    rw [List.drop_set_of_lt (by omega)]
    simp [Nat.add_assoc, Nat.add_comm 1]
  rw [e1, e2]
  simp
theorem putFold (off : Nat) : ∀ (vs : List Value) (k : Nat) (cells : Array Value), off + k + vs.length ≤ cells.size →
    ((vs.zipIdx k).foldl (fun (cs : Array Value) (x : Value × Nat) => cs.setIfInBounds (off + x.2) x.1) cells).toList = putL cells.toList (off + k) vs
  | [], k, cells, _ => by simp [putL]
  | v :: vs, k, cells, h => by
    simp only [List.zipIdx_cons, List.foldl_cons]
    rw [putFold off vs (k + 1) _ (by simpa [Nat.add_assoc, Nat.add_comm 1] using h)]
    rw [Array.toList_setIfInBounds, show off + (k + 1) = off + k + 1 by omega, putL_cons (by simp at h ⊢; omega)]
theorem fill_put (vs cells : Array Value) (off : Nat) (h : off + vs.size ≤ cells.size) :
    (vs.zipIdx.foldl (fun (cs : Array Value) (x : Value × Nat) => cs.setIfInBounds (off + x.2) x.1) cells).toList = putL cells.toList off vs.toList := by
  rw [← Array.foldl_toList, Array.toList_zipIdx]
  exact putFold off vs.toList 0 cells (by simpa using h)
theorem fillL_sound {fs : List (Nat × Nat × Bool)} {pl : Nat → Option (Nat × Nat)} (hpl : ∀ i x, fs[i]? = some x → pl i = some (x.1, x.2.1)) :
    ∀ {vs : List (Nat × V1)} {ps : List (Nat × Value)} {cs cs' : List Lf} {us : Array Value}, fillL fs vs cs = some cs' → All2 (fun x (p : Nat × Value) => x.1 = p.1 ∧ RelV1 w Ok β x.2 p.2) vs ps →
      All2 (RelL w Ok β) cs us.toList → ∃ us', Instr.fill pl us ps = some us' ∧ All2 (RelL w Ok β) cs' us'.toList
  | [], [], cs, cs', us, h, _, hr => by
    simp only [fillL] at h
    cases h
    exact ⟨us, rfl, hr⟩
  | (i, x) :: vs, (j, v) :: ps, cs, cs', us, h, hv, hr => by
    obtain ⟨⟨rfl, hx⟩, hv⟩ := hv
    simp only [fillL] at h
    split at h
    · rename_i off n ag hfs
      split at h
      · rename_i hc
        obtain ⟨hd, hn, hle⟩ := hc
        have hcells := (hx.cells hd).1
        have hsz : v.cells.size = n := by have := hcells.length; simp at this; omega
        have hus : cs.length = us.size := by have := hr.length; rwa [Array.length_toList] at this
        have hput := hr.put off hcells
        rw [← fill_put v.cells us off (by omega)] at hput
        obtain ⟨us', h1, h2⟩ := fillL_sound hpl h hv hput
        refine ⟨us', ?_, h2⟩
        have hno : (v.cells.size != n || decide (off + v.cells.size > us.size)) = false := by
          simp [hsz]; omega
        have hno' : (decide (v.cells.size ≠ n) || decide (off + v.cells.size > us.size)) = false := by
          simp [hsz]; omega
        simp only [Instr.fill, hpl _ _ hfs]
        first
          | (rw [if_neg (by simp [hsz]; omega)]; exact h1)
      · cases h
    · cases h
  | [], _ :: _, _, _, _, _, hv, _ => hv.elim
  | _ :: _, [], _, _, _, _, hv, _ => hv.elim
end
end Go.AM
