/- Opening what a caller hands over: a datum of a kind, as the machine reads it. Conditions: none. -/
import Derived.Test.YtlfelhdcokadbaaIter
import Derived.Deep.Slices
import Derived.ChangeArms
set_option linter.all false
namespace Go.AM
open Go.RowKit Go.ChangeShapes Go.WideShapes Go.Deep
mutual
/-- A type of a kind. -/
inductive IsK (P : Program) : TypeId → K → Prop
  | int {t : TypeId} {ik : IntKind} : P.underlying t = some (.int ik) → IsK P t (.int ik)
  | bool {t : TypeId} : P.underlying t = some .bool → IsK P t .bool
  | str {t : TypeId} : P.underlying t = some .string → IsK P t .str
  | slice {t e : TypeId} {k : K} : P.underlying t = some (.slice e) → P.cellsOf e = k.sz → 0 < P.bytesOf e → IsK P e k → IsK P t (.slice e k)
  | struct {t : TypeId} {fs : Array Field} {k : K} : P.underlying t = some (.struct fs) → P.cellsOf t = k.sz → IsF P fs.toList 0 k → IsK P t k
inductive IsF (P : Program) : List Field → Nat → K → Prop
  | one {f : Field} {o : Nat} {k : K} : f.offset = o → P.cellsOf f.type = k.sz → IsK P f.type k → IsF P [f] o k
  | cons {f : Field} {o : Nat} {r : List Field} {a b : K} : f.offset = o → P.cellsOf f.type = a.sz → IsK P f.type a → IsF P r (o + a.sz) b → IsF P (f :: r) o (.pair a b)
end
/-- Every slice in it is of a length that fits. -/
def SzK : (k : K) → k.ty → Prop
  | .int _, _ => True
  | .bool, _ => True
  | .str, _ => True
  | .pair a b, x => SzK a x.1 ∧ SzK b x.2
  | .slice _ k, l => l.length ≤ 140737488351232 ∧ ∀ x ∈ l, SzK k x
def InW (w : World) (g : Nat) : Prop := g < w.heap.size
section
variable {H : Type} {enc : TypeId × Value → H} {P : Program} {w : World} {base : Nat} {held : Bool}
theorem all_left {a b : List Nat} {p : Nat → Bool} (h : (a ++ b).all p = true) : a.all p = true ∧ b.all p = true := by simpa using h
theorem weightsAll_get {e : TypeId} : ∀ {ds : List (DataW H)} {i : Nat} {d : DataW H}, (DataW.weightsAll P e ds).all (· ≤ reachBytes) = true → ds[i]? = some d → (d.weights P e).all (· ≤ reachBytes) = true
  | [], _, _, _, hi => by simp at hi
  | x :: r, 0, d, h, hi => by
    simp at hi; subst hi
    rw [DataW.weightsAll] at h
    exact (all_left h).1
  | x :: r, i + 1, d, h, hi => by
    rw [DataW.weightsAll] at h
    exact weightsAll_get (all_left h).2 (by simpa using hi)
theorem add_at (b o j : Nat) : (⟨b, o, none⟩ : Addr).add j = ⟨b, o + j, none⟩ := by unfold Addr.add; split <;> simp_all
theorem cells_spot {a : Addr} {n : Nat} {cs : List Value} (hn : 0 < n) (h : w.cells? base a n = some cs) : a.spot = none := by
  obtain ⟨_, hl, hat⟩ := World.cells?_some h
  have h0 := hat 0 hn
  have ha : a.add 0 = a := by simp [Addr.add]
  rw [ha, List.getElem?_eq_getElem (by omega)] at h0
  unfold World.cell? at h0
  cases hsp : a.spot with
  | none => rfl
  | some _ => rw [hsp] at h0; split at h0 <;> simp at h0
theorem cells_row {g o n : Nat} {cs : List Value} (hn : 0 < n) (h : w.cells? base ⟨g, o, none⟩ n = some cs) :
    ∃ cur t fr, w.heap[g]? = some (.cells cur t fr) ∧ o + n ≤ cur.size ∧ cs = (cur.toList.drop o).take n := by
  obtain ⟨_, hl, hat⟩ := World.cells?_some h
  have hat : ∀ i, i < n → w.cell? ⟨g, o + i, none⟩ = cs[i]? := fun i hi => by rw [← hat i hi, add_at]
  have h0 := hat 0 hn
  rw [List.getElem?_eq_getElem (by omega)] at h0
  unfold World.cell? at h0
  cases ho : w.heap[g]? with
  | none => simp [ho] at h0
  | some ob =>
    cases ob with
    | cells cur t fr =>
      have hget : ∀ i, i < n → cur[o + i]? = cs[i]? := fun i hi => by
        have h1 := hat i hi
        unfold World.cell? at h1
        simpa [ho] using h1
      have hsz : o + n ≤ cur.size := by
        have h2 := hget (n - 1) (by omega)
        rw [List.getElem?_eq_getElem (show n - 1 < cs.length by omega)] at h2
        have := (Array.getElem?_eq_some_iff.1 h2).1
        omega
      refine ⟨cur, t, fr, rfl, hsz, ?_⟩
      refine List.ext_getElem? fun i => ?_
      rw [List.getElem?_take]
      split
      · rename_i hi
        rw [← hget i hi, List.getElem?_drop]
        simp
      · rename_i hi
        exact List.getElem?_eq_none (by omega)
    | _ => simp [ho] at h0
/-- What opening a slice's elements gives. -/
theorem open_elems {k : K} {e : TypeId} {g o len m n : Nat} {D : Nat → DataW H} {Pl : Nat → List MemPlace} {cur : Array Value} {tg : TypeId} {fr : Nat × Nat} (hg : w.heap[g]? = some (.cells cur tg fr)) (ho : o ≤ cur.size) (hlm : len ≤ m)
    (hi : ∀ i, i < m → ∃ cs', w.cells? base ⟨g, o + i * k.sz, none⟩ k.sz = some cs' ∧ DataW.trod enc P w base (fun _ => true) held n e cs' = some (D i, Pl i))
    (hz : ∀ i, i < len → ((D i).weights P e).all (· ≤ reachBytes) = true)
    (ih : ∀ {fuel : Nat} {cs : List Value} {x : DataW H × List MemPlace}, DataW.trod enc P w base (fun _ => true) held fuel e cs = some x → (x.1.weights P e).all (· ≤ reachBytes) = true → ∃ y, RdC w (InW w) k y cs ∧ SzK k y) :
    ∀ j, j ≤ len → ∃ l : List k.ty, l.length = j ∧ RdRow (RdC w (InW w) k) k.sz l ((cur.toList.drop o).take (j * k.sz)) ∧ o + j * k.sz ≤ cur.size ∧ ∀ y ∈ l, SzK k y := by
  intro j
  induction j with
  | zero => intro _; exact ⟨[], rfl, by simp [RdRow], by simpa using ho, by simp⟩
  | succ j ihj =>
    intro hj
    obtain ⟨l, h1, h2, h3, h4⟩ := ihj (by omega)
    obtain ⟨csj, hcj, htj⟩ := hi j (by omega)
    obtain ⟨cur', tg', fr', hg', hoff', hcsj⟩ := cells_row k.sz_pos hcj
    rw [hg] at hg'
    cases hg'
    obtain ⟨y, hy, hzy⟩ := ih htj (hz j (by omega))
    refine ⟨l ++ [y], by simp [h1], ?_, by rw [Nat.add_mul]; omega, fun z hzm => ?_⟩
    · have e1 : (cur.toList.drop o).take ((j + 1) * k.sz) = (cur.toList.drop o).take (j * k.sz) ++ csj := by
        rw [hcsj, Nat.add_mul, Nat.one_mul, List.take_add, List.drop_drop]
      rw [e1]
      exact h2.append ⟨csj, [], by simp, by rw [hy.len], hy, rfl⟩
    · rcases List.mem_append.1 hzm with hzm | hzm
      · exact h4 z hzm
      · rw [List.mem_singleton.1 hzm]; exact hzy
abbrev OpensK (enc : TypeId × Value → H) (P : Program) (w : World) (base : Nat) (held : Bool) (t : TypeId) (k : K) : Prop :=
  ∀ {fuel : Nat} {cs : List Value} {x : DataW H × List MemPlace}, DataW.trod enc P w base (fun _ => true) held fuel t cs = some x → (x.1.weights P t).all (· ≤ reachBytes) = true → ∃ y, RdC w (InW w) k y cs ∧ SzK k y
abbrev OpensF (enc : TypeId × Value → H) (P : Program) (w : World) (base : Nat) (held : Bool) (fs : List Field) (o : Nat) (k : K) : Prop :=
  ∀ {xs : List (DataW H × List MemPlace)} {n : Nat} {cs : List Value}, xs.length = fs.length →
    (∀ (i : Nat) (f : Field), fs[i]? = some f → DataW.trod enc P w base (fun _ => true) held n f.type ((cs.drop f.offset).take (P.cellsOf f.type)) = xs[i]?) →
    (DataW.weightsEach P (fs.map (·.type)) (xs.map (·.1))).all (· ≤ reachBytes) = true → ∃ y, RdC w (InW w) k y ((cs.drop o).take k.sz) ∧ SzK k y
theorem open_slice_k {t e : TypeId} {k : K} (ht : P.underlying t = some (.slice e)) (hc : P.cellsOf e = k.sz) (hb : 0 < P.bytesOf e) (ih : OpensK enc P w base held e k) : OpensK enc P w base held t (.slice e k) := by
  intro fuel cs x h hz
  rcases open_slice ht h with ⟨hcs, _⟩ | ⟨a, len, cap, m, n, D, Pl, hcs, _, hl, hm, hmm, hx, hi⟩
  · exact ⟨[], ⟨_, hcs, .inl ⟨rfl, none, rfl⟩⟩, by simp, by simp⟩
  · simp only [if_true] at hmm
    rw [hx] at hz
    simp only [DataW.weights, ht, List.all_cons, Bool.and_eq_true, decide_eq_true_eq] at hz
    obtain ⟨hz1, hz2⟩ := hz
    have hz2 := (all_left hz2).1
    have hlen : len ≤ 140737488351232 := by
      have h1 : (((List.range len).map D).length + ((List.range (m - len)).map fun j => D (len + j)).length) * 1 ≤ (((List.range len).map D).length + ((List.range (m - len)).map fun j => D (len + j)).length) * P.bytesOf e := Nat.mul_le_mul_left _ hb
      simp only [List.length_map, List.length_range] at h1 hz1
      simp only [reachBytes] at hz1
      omega
    by_cases hcap : m = 0
    · have hl0 : len = 0 := by omega
      have hc0 : cap = 0 := by omega
      subst hl0 hc0
      exact ⟨[], ⟨_, hcs, .inl ⟨rfl, some a, rfl⟩⟩, by simp, by simp⟩
    · obtain ⟨cs0, hc0, _⟩ := hi 0 (by omega)
      rw [hc] at hc0 hi
      have ha0 : a.add (0 * k.sz) = a := by simp [Addr.add]
      rw [ha0] at hc0
      have hsp := cells_spot k.sz_pos hc0
      obtain ⟨g, o, sp⟩ := a
      have hsp : sp = none := hsp
      subst hsp
      obtain ⟨cur, tg, fr, hg, hoff0, _⟩ := cells_row k.sz_pos hc0
      obtain ⟨l, h1, h2, h3, h4⟩ := open_elems (o := o) (Pl := Pl) (n := n) hg (by omega) (show len ≤ m by omega) (fun i him => by
        have := hi i him
        rw [add_at] at this
        exact this) (fun i hil => weightsAll_get (i := i) (d := D i) hz2 (by simp [hil])) ih len (Nat.le_refl _)
      subst h1
      exact ⟨l, ⟨_, hcs, .inr ⟨g, o, cap, cur, tg, fr, rfl, (Array.getElem?_eq_some_iff.1 hg).1, hg, hl, h3, h2⟩⟩, hlen, h4⟩
theorem open_k {t : TypeId} {k : K} (hk : IsK P t k) : OpensK enc P w base held t k := by
  refine IsK.rec (motive_1 := fun t k _ => OpensK enc P w base held t k) (motive_2 := fun fs o k _ => OpensF enc P w base held fs o k) ?_ ?_ ?_ ?_ ?_ ?_ ?_ hk
  · intro t ik ht fuel cs x h hz
    obtain ⟨n, hcs, _⟩ := DataW.trod_int ht h
    exact ⟨n, hcs, trivial⟩
  · intro t ht fuel cs x h hz
    obtain ⟨n, hcs, _⟩ := DataW.trod_bool ht h
    exact ⟨n, hcs, trivial⟩
  · intro t ht fuel cs x h hz
    obtain ⟨n, hcs, _⟩ := DataW.trod_string ht h
    exact ⟨n, hcs, trivial⟩
  · intro t e k ht hc hb _ ih
    exact open_slice_k ht hc hb ih
  · intro t fs k ht hc hf ih fuel cs x h hz
    obtain ⟨xs, n, _, hx, hl, hxl, hg⟩ := DataW.trod_struct ht h
    rw [hx] at hz
    simp only [DataW.weights, ht] at hz
    obtain ⟨y, hy, hzy⟩ := ih (xs := xs) (n := n) (cs := cs) (by simpa using hxl) (fun i f hi => hg i f (by simpa using hi)) hz
    rw [List.drop_zero, List.take_of_length_le (by omega)] at hy
    exact ⟨y, hy, hzy⟩
  · intro f o k ho hc hk ih xs n cs hl h hz
    match xs, hl with
    | [x], _ =>
      have h0 := h 0 f rfl
      rw [ho, hc] at h0
      simp only [List.map_cons, List.map_nil, DataW.weightsEach] at hz
      exact ih h0 (all_left hz).1
  · intro f o r a b ho hc hk hr ih1 ih2 xs n cs hl h hz
    match xs, hl with
    | x :: xs, hl =>
      have h0 := h 0 f rfl
      rw [ho, hc] at h0
      simp only [List.map_cons, DataW.weightsEach] at hz
      obtain ⟨hz1, hz2⟩ := all_left hz
      obtain ⟨y, hy, hzy⟩ := ih1 h0 hz1
      obtain ⟨z, hzz, hzz2⟩ := ih2 (xs := xs) (n := n) (cs := cs) (by simpa using hl) (fun i f hi => h (i + 1) f (by simpa using hi)) hz2
      refine ⟨(y, z), ⟨_, _, ?_, hy, hzz⟩, hzy, hzz2⟩
      show (cs.drop o).take (a.sz + b.sz) = _
      rw [List.take_add, List.drop_drop]
end
end Go.AM
