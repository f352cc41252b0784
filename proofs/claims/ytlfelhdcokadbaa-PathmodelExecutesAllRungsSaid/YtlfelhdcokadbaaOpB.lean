/- The abstract machine: the operations that change memory. Conditions: none. -/
import Derived.Test.YtlfelhdcokadbaaOpA
import Derived.Great.BuildSlice
set_option linter.all false
namespace Go.AM
open Go.RowKit
section
variable {P : Program} {T : TT} {E : Env}
theorem blkOf_slice {v : Value} (h : ∃ a n c, v = .slice a n c) : blkOf v = v.ownBlock := by
  obtain ⟨a, n, c, rfl⟩ := h
  cases a <;> rfl
theorem RdRow.of_get {α : Type} {R : α → List Value → Prop} {sz : Nat} : ∀ {l : List α} {cs : List Value}, cs.length = l.length * sz → (∀ i x, l[i]? = some x → R x ((cs.drop (i * sz)).take sz)) → RdRow R sz l cs
  | [], cs, hl, _ => List.eq_nil_of_length_eq_zero (by simpa using hl)
  | x :: l, cs, hl, h => by
    have hl' : cs.length = l.length * sz + sz := by rw [hl, List.length_cons, Nat.add_mul, Nat.one_mul]
    refine ⟨cs.take sz, cs.drop sz, by simp, by rw [List.length_take]; omega, by simpa using h 0 x rfl, RdRow.of_get (by rw [List.length_drop]; omega) fun i y hy => ?_⟩
    have := h (i + 1) y (by simpa using hy)
    rw [List.drop_drop]
    rwa [Nat.add_mul, Nat.one_mul, Nat.add_comm] at this
theorem made_row {α : Type} {R : α → List Value → Prop} {sz : Nat} {x : α} {z : Array Value} (hz : z.size = sz) (hsz : 0 < sz) (hx : R x z.toList) (n : Nat) : RdRow R sz (List.replicate n x) (madeCells z (n * sz)).toList := by
  refine RdRow.of_get (by simp [madeCells]) fun i y hy => ?_
  obtain ⟨hi, hy⟩ := List.getElem?_eq_some_iff.1 hy
  have hi : i < n := by simpa using hi
  have hy : x = y := by simpa using hy
  subst hy
  have : ((madeCells z (n * sz)).toList.drop (i * sz)).take sz = z.toList := by
    apply List.ext_getElem?
    intro j
    rw [List.getElem?_take]
    split
    · rename_i hj
      have hlt : i * sz + j < n * sz := by
        have : (i + 1) * sz ≤ n * sz := Nat.mul_le_mul_right _ hi
        rw [Nat.add_mul, Nat.one_mul] at this
        omega
      rw [List.getElem?_drop]
      simp only [madeCells, Array.toList_map, Array.toList_range, List.getElem?_map, List.getElem?_range hlt, Option.map_some]
      have : (i * sz + j) % sz = j := by rw [Nat.mul_comm, Nat.mul_add_mod, Nat.mod_eq_of_lt hj]
      have hjz : j < z.size := by omega
      rw [hz, this]
      simp [hjz]
    · rename_i hj
      rw [List.getElem?_eq_none (by simp; omega)]
  rw [this]; exact hx
theorem append_own (w : World) (t ty e : TypeId) (i : TypeInfo) (z : Value) (size : Nat) (ht : P.underlying t = some (.slice e)) (hi : P.info? e = some i) (hz : i.zero = some z)
    (hsize : i.size = size) (hzs : z.cells.size = size) (v : Value) (n : Nat) (xs : List Value) (hown : OwnsAt w e size v n xs)
    (a : Addr) (m c : Nat) (news : List Value) (hl : news.length = m * size) (hnews : ∀ j u, news[j]? = some u → w.cell? (a.add j) = some u) (h1 : ∀ u ∈ news, u.oneCell' = true)
    (h63 : n + m ≤ maxLen) (hbytes : (n + m) * i.bytes ≤ 140737488355328) :
    ∃ v' w', (Builtin.append_ #[t, t] ty #[v, .slice (some a) m c]).run P w = .ok v' w' ∧ OwnsAt w' e size v' (n + m) (xs ++ news) ∧ w.grownBy w' v.ownBlock ∧
      (∀ g, v'.ownBlock = some g → v.ownBlock = some g ∨ w.heap.size ≤ g) ∧ ∃ a n c, v' = .slice a n c := by
  subst hsize
  have hsmall : n + m ≤ 9223372036854775807 := by simp only [maxLen] at h63; omega
  have hlen : (xs ++ news).length = (n + m) * i.size := by rw [List.length_append, hown.1, hl, Nat.add_mul]
  have grown : ∀ (old : Nat) (row : Option Nat),
      (w.drew.alloc (.cells (xs.toArray ++ news.toArray ++ Builtin.zeroCells z.cells (grownCap w (n + m) old e - (n + m))) e)).ownsRow 0 e i.size
        (.slice (some ⟨w.heap.size, 0, none⟩) (n + m) (grownCap w (n + m) old e)) (n + m) (xs ++ news) ∧
      w.grownBy (w.drew.alloc (.cells (xs.toArray ++ news.toArray ++ Builtin.zeroCells z.cells (grownCap w (n + m) old e - (n + m))) e)) row := by
    intro old row
    have hge := grownCap_ge w (n + m) old e
    refine ⟨⟨hlen, .inr ⟨w.heap.size, _, _, rfl, Nat.zero_le _, heap_alloc_new w.drew _, hge, grownCap_le_maxLen w (n + m) old e h63, ?_, ?_⟩⟩, ⟨rfl, rfl, rfl, by simp, fun k hk _ => heap_alloc_old w.drew _ k hk⟩⟩
    · simp only [Array.size_append, List.size_toArray, size_zeroCells, hzs, hown.1, hl, ← Nat.add_mul]
      congr 1
      omega
    · simp only [Array.toList_append, List.append_assoc]
      rw [← List.append_assoc, ← hlen]
      exact List.take_left
  rcases hown.2 with ⟨rfl, rfl⟩ | ⟨g, o, cap, cur, rfl, hg, hnc, hcm, hcs, htake⟩
  · have hx : xs = [] := List.eq_nil_of_length_eq_zero (by simpa using hown.1)
    subst hx
    by_cases hm : m = 0
    · subst hm
      have hn : news = [] := List.eq_nil_of_length_eq_zero (by simpa using hl)
      subst hn
      refine ⟨.slice none 0 0, w, ?_, OwnsAt.nil w e i.size, ⟨rfl, rfl, rfl, Nat.le_refl _, fun _ _ _ => rfl⟩, fun g h => by simp [Value.ownBlock] at h, _, _, _, rfl⟩
      simp [Builtin.append_, run_underlying ht, sizeOf, typeInfo, hi, Builtin.lenOf, Builtin.firstCells, loadCells, loadCellsFrom]
    · have hr := run_append_nil (P := P) w t ty e i z ht hi hz a m c news hl hnews (by omega) (by omega) (by have hb := hbytes; simp only [Nat.zero_add] at hb; omega)
      have hgr := grown 0 (Value.ownBlock (.slice none 0 0))
      simp only [Nat.zero_add, List.nil_append, Array.empty_append] at hgr ⊢
      exact ⟨_, _, hr, .of hgr.1, hgr.2, fun g h => by simp [Value.ownBlock] at h; right; omega, _, _, _, rfl⟩
  · by_cases hroom : n + m ≤ cap
    · have hfit : o + n * i.size + news.length ≤ cur.size := by
        have : (n + m) * i.size ≤ cap * i.size := Nat.mul_le_mul_right _ hroom
        rw [Nat.add_mul] at this
        rw [hl]; omega
      have hf := run_firstCells_some (P := P) w i.size m a m c news hl hnews
      have hst := run_storeCells_at P g (o + n * i.size) e news 0 cur w hg (by simpa using hfit) h1
      simp only [Nat.add_zero] at hst
      have hr : (Builtin.append_ #[t, t] ty #[.slice (some ⟨g, o, none⟩) n cap, .slice (some a) m c]).run P w = .ok (.slice (some ⟨g, o, none⟩) (n + m) cap) (w.setRow g (cur.toList.take (o + n * i.size) ++ news ++ cur.toList.drop (o + n * i.size + news.length)).toArray) := by
        simp [Builtin.append_, run_underlying ht, sizeOf, typeInfo, hi, Builtin.lenOf, hroom, hf, Addr.add_lit, hst]
      refine ⟨_, _, hr, ⟨hlen, .inr ⟨g, o, cap, _, rfl, setRow_heap w g cur _ e _ hg, hroom, hcm, ?_, ?_⟩⟩, ⟨rfl, rfl, rfl, by simp, fun k _ hk => setRow_other w g k _ (fun e => hk (by simp [Value.ownBlock, e]))⟩, fun g' h => .inl h, _, _, _, rfl⟩
      · simp only [List.size_toArray, List.length_append, List.length_take, List.length_drop, Array.length_toList]
        omega
      · have e1 : (cur.toList.take (o + n * i.size) ++ news ++ cur.toList.drop (o + n * i.size + news.length)).drop o = xs ++ news ++ cur.toList.drop (o + n * i.size + news.length) := by
          rw [List.append_assoc, List.drop_append_of_le_length (by rw [List.length_take]; simp; omega), List.drop_take, Nat.add_sub_cancel_left, htake, List.append_assoc]
        rw [List.toList_toArray, e1, ← hlen]
        exact List.take_left
    · have holds : ∀ j u, xs[j]? = some u → w.cell? ((⟨g, o, none⟩ : Addr).add j) = some u := fun j u hj => by
        rw [Addr.add_lit, cell_of_row w g _ cur e _ hg]
        rw [← htake, List.getElem?_take] at hj
        split at hj
        · simpa using hj
        · cases hj
      have hr := run_append_grow (P := P) w t ty e i z ht hi hz ⟨g, o, none⟩ n cap xs hown.1 holds a m c news hl hnews (by omega) (by omega) (growslice_fits (by omega) hbytes)
      have hgr := grown cap (Value.ownBlock (.slice (some ⟨g, o, none⟩) n cap))
      exact ⟨_, _, hr, .of hgr.1, hgr.2, fun g' h => by simp [Value.ownBlock] at h; right; omega, _, _, _, rfl⟩
theorem putL_drop {l vs : List Value} {o p : Nat} (h : o + p ≤ l.length) : (putL l (o + p) vs).drop o = putL (l.drop o) p vs := by
  unfold putL
  rw [List.append_assoc, List.drop_append_of_le_length (by rw [List.length_take]; omega), List.drop_take, Nat.add_sub_cancel_left, List.drop_drop, List.append_assoc, Nat.add_assoc]
theorem putL_take {l vs : List Value} {p n : Nat} (h : p + vs.length ≤ n) (hl : n ≤ l.length) : (putL l p vs).take n = putL (l.take n) p vs := by
  unfold putL
  have e1 : (List.take p l ++ vs).length = p + vs.length := by rw [List.length_append, List.length_take]; omega
  rw [List.take_append, List.take_of_length_le (by omega), e1, List.take_take, Nat.min_eq_left (by omega), List.drop_take]
theorem putL_mid {l vs : List Value} {p off sz : Nat} (h : off + vs.length ≤ sz) (hl : p + sz ≤ l.length) : putL l (p + off) vs = putL l p (putL ((l.drop p).take sz) off vs) := by
  unfold putL
  have e1 : (List.take off (List.take sz (List.drop p l)) ++ vs ++ List.drop (off + vs.length) (List.take sz (List.drop p l))).length = sz := by
    simp only [List.length_append, List.length_take, List.length_drop]; omega
  rw [e1]
  have e2 : List.drop (off + vs.length) (List.take sz (List.drop p l)) ++ List.drop (p + sz) l = List.drop (p + off + vs.length) l := by
    rw [List.drop_take, List.drop_drop]
    have : List.drop (p + sz) l = List.drop (sz - (off + vs.length)) (List.drop (p + (off + vs.length)) l) := by rw [List.drop_drop]; congr 1; omega
    rw [this, List.take_append_drop]
    congr 1
    omega
  have e3 : List.take (p + off) l = List.take p l ++ List.take off (List.take sz (List.drop p l)) := by
    rw [List.take_take, Nat.min_eq_left (by omega), List.take_add]
  rw [e3, ← e2]
  simp only [List.append_assoc]
end

/-- What an operation that is no call comes to. -/
def After (P : Program) (o : Oper) (a : Act) (B Ok0 : Nat → Prop) (w0 w : World) (K : V → St → Prop) : Prop :=
  ∃ v w', ((execOp a.eval o).run P w = .ok (.value v) w' ∨ ((execOp a.eval o).run P w = .ok .skip w' ∧ v = undef)) ∧ (tame o = true → Grow w w') ∧
    ∃ av st' Ok' β', K av st' ∧ RelV w' Ok' β' av v ∧ Rel B Ok0 w0 w' Ok' β' st' a.tmps.toList
section
variable {P : Program} {T : TT} {E : Env} {w w0 : World} {B Ok0 Ok : Nat → Prop} {β : List Value}
theorem Rel.len {st : St} {tm : List Value} (r : Rel B Ok0 w0 w Ok β st tm) : st.heap.length = β.length := r.s.h.objs.length
/-- A new block. -/
theorem Rel.alloc {st : St} {tm : List Value} (r : Rel B Ok0 w0 w Ok β st tm) (hB : ∀ g, B g → g < w0.heap.size) (o : Obj) {v : Value} {ob : Ob} (hv : blkOf v = some w.heap.size)
    (ho : RelO (w.alloc o) Ok (β ++ [v]) ob v) : Rel B Ok0 w0 (w.alloc o) Ok (β ++ [v]) ⟨st.slots, st.heap ++ [ob]⟩ tm :=
  r.push (w' := w.alloc o) hB (by simp) rfl rfl rfl (fun g hg => heap_alloc_old w o g hg) (fun g hg => by rw [hv] at hg; cases hg; simp) ho
theorem aop_assign (hT : ttOk P T = true) (hB : ∀ g, B g → g < w0.heap.size) {o : Oper} {x : Operand} (hop : o.op = .assign x) {st : St} {a : Act} (r : Rel B Ok0 w0 w Ok β st a.tmps.toList) {K : V → St → Prop} (h : aop T E o st K) :
    After P o a B Ok0 w0 w K := by
  simp only [aop, hop] at h
  obtain ⟨v, hq, hr⟩ := evK_sound r.s h
  have hrun : (execOp a.eval o).run P w = .ok (.value (a.eval x)) w := by simp [execOp, hop]
  have same : K v st → After P o a B Ok0 w0 w K := fun hk => ⟨_, w, .inl hrun, fun _ => .refl w, v, st, Ok, β, hk, hr, r⟩
  split at hq
  · split at hq
    · rename_i e k hek
      rw [newK_eq] at hq
      have hv : a.eval x = .slice none 0 0 := hr
      refine ⟨_, w, .inl hrun, fun _ => .refl w, _, _, Ok, β ++ [.slice none 0 0], hq, ?_, r.push hB (Nat.le_refl _) rfl rfl rfl (fun _ _ => rfl) (fun g hg => by simp [blkOf] at hg) ⟨[], OwnsAt.nil w e k.sz, rfl⟩⟩
      rw [hv, r.len]
      exact ⟨by simp, _, _, _, rfl⟩
    · exact same hq
  · exact same hq
theorem aop_alloc (hT : ttOk P T = true) (hB : ∀ g, B g → g < w0.heap.size) {o : Oper} {t : TypeId} (hop : o.op = .alloc t) {st : St} {a : Act} (r : Rel B Ok0 w0 w Ok β st a.tmps.toList) {K : V → St → Prop} (h : aop T E o st K) :
    After P o a B Ok0 w0 w K := by
  simp only [aop, hop] at h
  obtain ⟨i, hi, hq⟩ := someK_iff h
  rw [newK_eq] at hq
  obtain ⟨pi, d, z, f⟩ := ti_facts hT hi
  refine ⟨.pointer (some ⟨w.heap.size, 0, none⟩), w.alloc (.cells z.cells t), .inl ?_, fun _ => .alloc _ _, _, _, Ok, β ++ [.pointer (some ⟨w.heap.size, 0, none⟩)], hq, ?_, r.alloc hB _ rfl ?_⟩
  · simp [execOp, hop, Instr.alloc, zeroValue, run_info f.info, f.zero, newVar, newRow]
  · exact ⟨w.heap.size, by rw [r.len]; simp, rfl⟩
  · exact ⟨w.heap.size, z.cells, rfl, heap_alloc_new w _, f.zeroR _ _ _⟩
theorem aop_box (hT : ttOk P T = true) (hB : ∀ g, B g → g < w0.heap.size) {o : Oper} {t : TypeId} {x : Operand} (hop : o.op = .box t x) {st : St} {a : Act} (r : Rel B Ok0 w0 w Ok β st a.tmps.toList) {K : V → St → Prop} (h : aop T E o st K) :
    After P o a B Ok0 w0 w K := by
  simp only [aop, hop] at h
  obtain ⟨v, hq, hr⟩ := ev1_sound r.s h
  obtain ⟨hd, hq⟩ := ifK_iff hq
  rw [newK_eq] at hq
  obtain ⟨hc, _⟩ := hr.cells hd
  refine ⟨.pointer (some ⟨w.heap.size, 0, none⟩), w.alloc (.cells (a.eval x).cells t), .inl ?_, fun _ => .alloc _ _, _, _, Ok, β ++ [.pointer (some ⟨w.heap.size, 0, none⟩)], hq, ?_, r.alloc hB _ rfl ?_⟩
  · simp [execOp, hop, Instr.box, newVar, newRow]
  · exact ⟨w.heap.size, by rw [r.len]; simp, rfl⟩
  · refine ⟨w.heap.size, _, rfl, heap_alloc_new w _, hc.mono fun l u => RelL.mono (r.s.stay fun g hg _ => heap_alloc_old w _ g hg) (fun i u h => get_append_some h)⟩
theorem aop_makeSlice (hT : ttOk P T = true) (hB : ∀ g, B g → g < w0.heap.size) {o : Oper} {t : TypeId} {x y : Operand} (hop : o.op = .makeSlice t x y) {st : St} {a : Act} (r : Rel B Ok0 w0 w Ok β st a.tmps.toList) {K : V → St → Prop}
    (h : aop T E o st K) : After P o a B Ok0 w0 w K := by
  simp only [aop, hop] at h
  obtain ⟨⟨e, k⟩, hek, hq⟩ := someK_iff h
  obtain ⟨k1, n, hq, hn⟩ := evI_sound r.s hq
  obtain ⟨k2, c, hq, hc⟩ := evI_sound r.s hq
  obtain ⟨⟨h0, hnc, hcm⟩, hroom, hq⟩ := hq
  rw [newK_eq] at hq
  obtain ⟨ie, z, hu, hie, hsi, hby, hz, hzs, hzr⟩ := skind_facts hT hek
  obtain ⟨te, hte, hroom⟩ := someK_iff hroom
  obtain ⟨pe, de, ze, fe⟩ := ti_facts hT hte
  have hpe : pe = ie := by have := fe.info; simp only at this; rw [hie] at this; cases this; rfl
  subst hpe
  rw [← fe.bytes] at hroom
  have hb : (pe.bytes : Int) * c ≤ 281474976710656 := by
    have : ((c.toNat * pe.bytes : Nat) : Int) ≤ 140737488355328 := by omega
    rw [Int.natCast_mul, Int.toNat_of_nonneg (by omega), Int.mul_comm] at this
    omega
  have hrun := run_make (P := P) w t e pe z hu hie hz k1 k2 n c h0 hnc hb (by omega)
  refine ⟨.slice (some ⟨w.heap.size, 0, none⟩) n.toNat c.toNat, w.alloc (.cells (madeCells z.cells (c.toNat * pe.size)) e), .inl (by simp [execOp, hop, hn, hc, hrun]), fun _ => .alloc _ _, _, _, Ok, β ++ [.slice (some ⟨w.heap.size, 0, none⟩) n.toNat c.toNat], hq, ?_, r.alloc hB _ rfl ?_⟩
  · exact ⟨by rw [r.len]; simp, _, _, _, rfl⟩
  · have hrow := made_row (R := RdC (w.alloc (.cells (madeCells z.cells (c.toNat * pe.size)) e)) Ok k) (x := k.dflt) hzs k.sz_pos (hzr _ _) c.toNat
    have htk := hrow.take n.toNat
    have hmin : (List.replicate c.toNat k.dflt).take n.toNat = List.replicate n.toNat k.dflt := by
      rw [List.take_replicate]; congr 1; omega
    rw [hmin] at htk
    rw [hsi]
    refine ⟨_, ⟨?_, .inr ⟨w.heap.size, 0, c.toNat, madeCells z.cells (c.toNat * k.sz), by simp, heap_alloc_new w _, by simp; omega, ?_, by rw [size_madeCells]; exact Nat.le_of_eq (Nat.zero_add _), by rw [List.drop_zero]⟩⟩, ?_⟩
    · have : n.toNat * k.sz ≤ c.toNat * k.sz := Nat.mul_le_mul_right _ (by omega)
      simp only [List.length_take, Array.length_toList, size_madeCells, List.length_replicate]
      exact Nat.min_eq_left this
    · simp only [maxLen]; omega
    · rw [hsi] at htk
      simpa using htk
theorem run_storeVar_at {t : TypeId} {pi : TypeInfo} (hi : P.info? t = some pi) {w : World} {g off : Nat} {cur : Array Value} {e : TypeId} (hg : w.heap[g]? = some (.cells cur e (0, 0))) {v : Value}
    (hs : v.cells.size = pi.size) (hl : off + v.cells.size ≤ cur.size) (h1 : oneCells v.cells.toList) :
    (Instr.storeAt t (.pointer (some ⟨g, off, none⟩)) v).run P w = .ok () (w.setRow g (putL cur.toList off v.cells.toList).toArray) := by
  have := run_storeCells_at P g off e v.cells.toList 0 cur w hg (by simpa using hl) h1
  simp only [Nat.add_zero] at this
  simp [Instr.storeAt, Instr.sureAddr, storeVar, run_sizeOf hi, hs, this, putL]
theorem aop_store (hT : ttOk P T = true) (hB : ∀ g, B g → g < w0.heap.size) {o : Oper} {t : TypeId} {p x : Operand} (hop : o.op = .store t p x) {st : St} {a : Act} (r : Rel B Ok0 w0 w Ok β st a.tmps.toList) {K : V → St → Prop}
    (h : aop T E o st K) : After P o a B Ok0 w0 w K := by
  simp only [aop, hop] at h
  obtain ⟨l, h2, hl⟩ := evL_sound r.s h
  obtain ⟨v, h3, hv⟩ := ev1_sound r.s h2
  obtain ⟨i, hi, h4⟩ := someK_iff h3
  obtain ⟨hc, h5⟩ := ifK_iff h4
  clear h h2 h3 h4
  simp only [Bool.and_eq_true] at hc
  obtain ⟨hd, hlen⟩ := hc
  have hlen := Nat.eq_of_beq_eq_true hlen
  obtain ⟨hcs, hone⟩ := hv.cells hd
  obtain ⟨pi, d, z, f⟩ := ti_facts hT hi
  have hsz : (a.eval x).cells.size = v.ls.length := by simpa using (All2.length hcs).symm
  have hps : (a.eval x).cells.size = pi.size := by rw [hsz, hlen, f.size]
  cases l with
  | ptr id off =>
    obtain ⟨ob, ho, h6⟩ := getK_iff h5
    clear h5
    obtain ⟨b, hb, hro⟩ := r.s.h.obj ho
    cases ob with
    | box bt cs =>
      obtain ⟨hle, h7⟩ := ifK_iff h6
      clear h6
      have hle := Nat.le_of_ble_eq_true hle
      rw [lfsK_eq, setK_eq] at h7
      obtain ⟨g, cur, hbv, hg, hall⟩ := hro
      obtain ⟨g', hb', hpv⟩ := hl
      rw [hb, hbv] at hb'
      obtain rfl : g = g' := by cases hb'; rfl
      have hcl : cs.length = cur.size := by simpa using All2.length hall
      have hrun := run_storeVar_at (P := P) f.info hg (off := off) hps (by omega) hone
      have hbl : blkOf b = some g := by rw [hbv]; rfl
      have hoth : ∀ g1, g1 < w.heap.size → blkOf b ≠ some g1 → (w.setRow g (putL cur.toList off (a.eval x).cells.toList).toArray).heap[g1]? = w.heap[g1]? := fun g1 _ hne =>
        setRow_other w g g1 _ (fun e => hne (by rw [hbl, e]))
      have hst := r.s.stay (w' := w.setRow g (putL cur.toList off (a.eval x).cells.toList).toArray) fun g1 hg1 hok => hoth g1 hg1 fun h => r.s.h.okNot b g1 (List.mem_of_getElem? hb) h hok
      refine ⟨undef, w.setRow g (putL cur.toList off (a.eval x).cells.toList).toArray, .inr ⟨by simp [execOp, hop, hpv, hrun], rfl⟩, by simp [tame, hop], _, _, Ok, β, h7, rfl, ?_⟩
      refine r.same (w' := w.setRow g (putL cur.toList off (a.eval x).cells.toList).toArray) hB hb (by simp) rfl rfl rfl hoth (r.s.same (w' := w.setRow g (putL cur.toList off (a.eval x).cells.toList).toArray) hb (by simp) hoth ?_)
      refine ⟨g, _, hbv, setRow_heap w g cur _ bt _ hg, ?_⟩
      exact (hall.put off hcs).mono fun _ _ => RelL.mono hst (fun _ _ h => h)
    | _ => exact h6.elim
  | ept id n sz off =>
    obtain ⟨ob, ho, h6⟩ := getK_iff h5
    clear h5
    obtain ⟨b, hb, hro⟩ := r.s.h.obj ho
    cases ob with
    | row e k l =>
      obtain ⟨hc, h7⟩ := ifK_iff h6
      clear h6
      simp only [Bool.and_eq_true] at hc
      obtain ⟨⟨hc1, hc2⟩, hc3⟩ := hc
      obtain rfl : sz = k.sz := Nat.eq_of_beq_eq_true hc1
      have hle := Nat.le_of_ble_eq_true hc2
      obtain ⟨y, hy, h8⟩ := someK_iff h7
      clear h7
      rw [stK_eq] at h8
      obtain ⟨xs, hown, hrow⟩ := hro
      obtain ⟨g, o0, m, c, hb', hn0, hnm, hpv⟩ := hl
      rw [hb] at hb'
      obtain rfl : b = .slice (some ⟨g, o0, none⟩) m c := by cases hb'; rfl
      rcases hown.2 with ⟨hv', _⟩ | ⟨g', o1, cap, cur, hv', hg, hnc, hcap, hcsz, htake⟩
      · cases hv'
      have hoo : o0 = o1 := by cases hv'; rfl
      subst hoo
      have hgg : g = g' := by cases hv'; rfl
      have hml : m = l.length := by cases hv'; rfl
      have hcc : c = cap := by cases hv'; rfl
      subst hgg; subst hml; subst hcc
      have hlt : n.toNat < l.length := by omega
      have hget : l[n.toNat]? = some (getE k l n) := by simp [getE, List.getD, List.getElem?_eq_getElem hlt]
      have hel := hrow.get hget
      -- the element's cells, with the new ones put in
      have hls : All2 (RelL w Ok β) (putL (leaves k (getE k l n)) off v.ls) (putL ((xs.drop (n.toNat * k.sz)).take k.sz) off (a.eval x).cells.toList) := (leaves_rel hel).put off hcs
      obtain ⟨β1, Ok1, r1, hOk1, hids, hkeep, hback, _⟩ := r.sink k.flat hls
      have hcond : k.flat = true ∨ id ∉ ownIds (putL (leaves k (getE k l n)) off v.ls) := by
        rcases Bool.or_eq_true_iff.1 hc3 with h | h
        · exact .inl h
        · exact .inr (by simpa using h)
      obtain ⟨hb1, ho1⟩ := hkeep id hcond
      have ho1 := ho1 e k l ho
      rw [hb] at hb1
      clear hkeep
      generalize sinkSt k.flat (ownIds (putL (leaves k (getE k l n)) off v.ls)) st = st1 at h8 r1 ho1
      obtain ⟨s1, hp1⟩ := st1
      have hdat : RdC w Ok1 k y (putL ((xs.drop (n.toNat * k.sz)).take k.sz) off (a.eval x).cells.toList) := by
        have hd := deep_sound (Ok' := fun g => Ok g ∨ idBlk β (ownIds (putL (leaves k (getE k l n)) off v.ls)) g) r.s.h (fun _ => .inl) hy (fun _ => .inr) hls
        cases hf : k.flat with
        | true => exact hd.flat hf
        | false => exact hd.mono ⟨fun g hg => hg.elim (hOk1 g) (hids hf g), fun _ _ _ h => h⟩
      obtain ⟨u1, hu1, xs1, hown1, hrow1⟩ := r1.s.h.obj ho1
      rw [hb1] at hu1
      obtain rfl : _ = u1 := Option.some.inj hu1
      have hxs1 : xs1 = xs := by
        rcases hown1.2 with ⟨hv', _⟩ | ⟨g2, o2, cap2, cur2, hv', hg2, _, _, _, htake2⟩
        · cases hv'
        · cases hv'
          rw [hg] at hg2
          cases hg2
          rw [← htake, ← htake2]
      subst hxs1
      have hmul : n.toNat * k.sz + k.sz ≤ l.length * k.sz := by
        have : (n.toNat + 1) * k.sz ≤ l.length * k.sz := Nat.mul_le_mul_right _ hlt
        rw [Nat.add_mul, Nat.one_mul] at this; exact this
      have hcapm : o0 + l.length * k.sz ≤ cur.size := by have : l.length * k.sz ≤ c * k.sz := Nat.mul_le_mul_right _ hnc; omega
      have hvl : (a.eval x).cells.toList.length = v.ls.length := by simpa using hsz
      have hrun := run_storeVar_at (P := P) f.info hg (off := o0 + n.toNat * k.sz + off) hps (by omega) hone
      have hbl : blkOf (.slice (some ⟨g, o0, none⟩) l.length c) = some g := rfl
      have hoth : ∀ g1, g1 < w.heap.size → blkOf (.slice (some ⟨g, o0, none⟩) l.length c) ≠ some g1 → (w.setRow g (putL cur.toList (o0 + n.toNat * k.sz + off) (a.eval x).cells.toList).toArray).heap[g1]? = w.heap[g1]? := fun g1 _ hne =>
        setRow_other w g g1 _ (fun e => hne (by rw [hbl, e]))
      have hst := r1.s.stay (w' := w.setRow g (putL cur.toList (o0 + n.toNat * k.sz + off) (a.eval x).cells.toList).toArray) fun g1 hg1 hok => hoth g1 hg1 fun h => r1.s.h.okNot _ g1 (List.mem_of_getElem? hb1) h hok
      simp only [setK_eq] at h8
      refine ⟨undef, w.setRow g (putL cur.toList (o0 + n.toNat * k.sz + off) (a.eval x).cells.toList).toArray, .inr ⟨by simp [execOp, hop, hpv, hrun], rfl⟩, by simp [tame, hop], _, _, Ok1, β1, h8, rfl, ?_⟩
      refine r1.same (w' := w.setRow g (putL cur.toList (o0 + n.toNat * k.sz + off) (a.eval x).cells.toList).toArray) hB hb1 (by simp) rfl rfl rfl hoth (r1.s.same (w' := w.setRow g (putL cur.toList (o0 + n.toNat * k.sz + off) (a.eval x).cells.toList).toArray) hb1 (by simp) hoth ?_)
      have hxl : xs1.length = l.length * k.sz := hown.1
      have hput : ((putL cur.toList (o0 + n.toNat * k.sz + off) (a.eval x).cells.toList).drop o0).take (l.length * k.sz) = putL xs1 (n.toNat * k.sz + off) (a.eval x).cells.toList := by
        rw [← htake, Nat.add_assoc o0, putL_drop (by simp; omega)]
        exact putL_take (by omega) (by simp; omega)
      have hpl : (putL cur.toList (o0 + n.toNat * k.sz + off) (a.eval x).cells.toList).length = cur.size := by
        simp only [putL, List.length_append, List.length_take, List.length_drop, Array.length_toList]
        omega
      have hmid := putL_mid (l := xs1) (vs := (a.eval x).cells.toList) (p := n.toNat * k.sz) (off := off) (sz := k.sz) (by omega) (by omega)
      refine ⟨putL xs1 (n.toNat * k.sz + off) (a.eval x).cells.toList, ⟨?_, .inr ⟨g, o0, c, _, by rw [List.length_set], setRow_heap w g cur _ e _ hg, by rw [List.length_set]; exact hnc, hcap, by rw [List.size_toArray, hpl]; exact hcsz, by rw [List.length_set]; exact hput⟩⟩, ?_⟩
      · rw [List.length_set, ← hput, List.length_take, List.length_drop, hpl]
        omega
      · rw [hmid]
        refine (hrow1.mono fun _ _ => RdC.mono hst).set hlt (hdat.mono hst) hdat.len
    | _ => exact h6.elim
  | _ => exact h5.elim
theorem deep_def {heap : List Ob} {k : K} {v : V1} {x : k.ty} (h : deep heap k v.ls = some x) : isDef v = true := by
  have key : ∀ {ls ls' : List Lf}, borLs heap ls = some ls' → ∀ l ∈ ls, l ≠ .undef ∧ l ≠ .skip := by
    intro ls
    induction ls with
    | nil => intro _ _ l hl; simp at hl
    | cons y r ih =>
      intro ls' h l hl
      simp only [borLs] at h
      split at h
      · rename_i z hz
        split at h
        · rename_i s hs
          rcases List.mem_cons.1 hl with rfl | hl
          · constructor <;> (rintro rfl; simp [borL] at hz)
          · exact ih hs l hl
        · cases h
      · cases h
  unfold deep at h
  split at h
  · rename_i ls' hb
    have hk := key hb
    cases v with
    | one l =>
      have := hk l (by simp [V1.ls])
      cases l <;> first | rfl | exact absurd rfl this.1 | exact absurd rfl this.2
    | agg ls =>
      simp only [isDef, List.all_eq_true]
      intro l hl
      have := hk l hl
      cases l <;> first | rfl | exact absurd rfl this.2
  · cases h
theorem ownIds_append : ∀ (l r : List Lf), ownIds (l ++ r) = ownIds l ++ ownIds r
  | [], r => rfl
  | x :: l, r => by rw [List.cons_append, ownIds_cons, ownIds_append l r, ownIds_cons x l, List.append_assoc]
def partLs : List (Nat × V1) → List Lf
  | [] => []
  | (_, v) :: r => v.ls ++ partLs r
theorem partIds_eq : ∀ vs : List (Nat × V1), partIds vs = ownIds (partLs vs)
  | [] => rfl
  | (_, v) :: r => by simp only [partIds, partLs, ownIds_append, partIds_eq r]
theorem fillR_sound {heap : List Ob} (hh : RelH w Ok β heap) {Ok' : Nat → Prop} (hs : ∀ g, Ok g → Ok' g) {k : K} : ∀ {vs : List (Nat × V1)} {ps : List (Nat × Value)} {l l' : List k.ty} {us : Array Value},
    fillR heap k vs l = some l' → All2 (fun x (p : Nat × Value) => x.1 = p.1 ∧ RelV1 w Ok β x.2 p.2) vs ps → (∀ g, idBlk β (partIds vs) g → Ok' g) → RdRow (RdC w Ok' k) k.sz l us.toList →
    (∃ us', Instr.fill (fun i => some (i * k.sz, k.sz)) us ps = some us' ∧ RdRow (RdC w Ok' k) k.sz l' us'.toList ∧ l'.length = l.length) ∧ ∃ cs, All2 (RelL w Ok β) (partLs vs) cs
  | [], [], l, l', us, h, _, _, hr => by
    simp only [fillR] at h
    cases h
    exact ⟨⟨us, rfl, hr, rfl⟩, [], trivial⟩
  | (i, x) :: vs, (j, v) :: ps, l, l', us, h, hv, hids, hr => by
    obtain ⟨⟨rfl, hx⟩, hv⟩ := hv
    simp only [fillR] at h
    split at h
    · rename_i y hy
      split at h
      · rename_i hi
        have hd := deep_def hy
        obtain ⟨hc, _⟩ := hx.cells hd
        have hdat : RdC w Ok' k y v.cells.toList := deep_sound hh hs hy (fun g hg => hids g (by
          obtain ⟨i, hi, r⟩ := hg
          exact ⟨i, List.mem_append_left _ hi, r⟩)) hc
        have hsz : v.cells.size = k.sz := by simpa using hdat.len
        have hul : us.size = l.length * k.sz := by simpa using hr.len
        have hle : i * k.sz + v.cells.size ≤ us.size := by
          have : (i + 1) * k.sz ≤ l.length * k.sz := Nat.mul_le_mul_right _ hi
          rw [Nat.add_mul, Nat.one_mul] at this
          omega
        have hput := hr.set hi hdat (by simpa using hsz)
        rw [← fill_put v.cells us (i * k.sz) hle] at hput
        obtain ⟨⟨us', h1, h2, h3⟩, cs, h4⟩ := fillR_sound hh hs h hv (fun g hg => hids g (by
          obtain ⟨i, hi, r⟩ := hg
          exact ⟨i, List.mem_append_right _ hi, r⟩)) hput
        refine ⟨⟨us', ?_, h2, by rw [h3, List.length_set]⟩, _, hc.append h4⟩
        simp only [Instr.fill]
        rw [if_neg (by simp [hsz]; omega)]
        exact h1
      · cases h
    · cases h
  | [], _ :: _, _, _, _, _, hv, _, _ => hv.elim
  | _ :: _, [], _, _, _, _, hv, _, _ => hv.elim
theorem aop_buildSlice (hT : ttOk P T = true) (hB : ∀ g, B g → g < w0.heap.size) {o : Oper} {t : TypeId} {n : Nat} {ps : Array (Nat × Operand)} (hop : o.op = .buildSlice t n ps) {st : St} {a : Act} (r : Rel B Ok0 w0 w Ok β st a.tmps.toList)
    {K : V → St → Prop} (h : aop T E o st K) : After P o a B Ok0 w0 w K := by
  simp only [aop, hop] at h
  obtain ⟨⟨e, k⟩, hek, h2⟩ := someK_iff h
  obtain ⟨vs, h3, hall⟩ := partsK_sound r.s h2
  obtain ⟨l, hl, h4⟩ := someK_iff h3
  rw [stK_eq] at h4
  obtain ⟨hle, h5⟩ := ifK_iff h4
  have hle : n * k.sz ≤ 16777216 := Nat.le_of_ble_eq_true hle
  rw [newK_eq] at h5
  clear h h2 h3 h4
  simp only at h5 hl
  obtain ⟨ie, z, hu, hie, hsi, hby, hz, hzs, hzr⟩ := skind_facts hT hek
  have hmade := made_row (R := RdC w (fun g => Ok g ∨ idBlk β (partIds vs) g) k) (x := k.dflt) hzs k.sz_pos (hzr _ _) n
  obtain ⟨⟨us, hfill, hrow, hll⟩, cs, hcs⟩ := fillR_sound (Ok' := fun g => Ok g ∨ idBlk β (partIds vs) g) r.s.h (fun _ => .inl) hl hall (fun _ => .inr) hmade
  rw [List.length_replicate] at hll
  obtain ⟨β1, Ok1, r1, hOk1, hids, _, hback, _⟩ := r.sink k.flat hcs
  rw [partIds_eq] at h5 hrow
  generalize sinkSt k.flat (ownIds (partLs vs)) st = st1 at h5 r1
  have hrow1 : RdRow (RdC w Ok1 k) k.sz l us.toList := by
    refine hrow.mono fun x c hx => ?_
    cases hf : k.flat with
    | true => exact hx.flat hf
    | false => exact hx.mono ⟨fun g hg => hg.elim (hOk1 g) (hids hf g), fun _ _ _ h => h⟩
  have hpt : (ps.map fun (x : Nat × Operand) => (x.1, a.eval x.2)).toList = ps.toList.map fun p => (p.1, a.eval p.2) := by simp
  have hrun : (Instr.buildSlice t n (ps.map fun (x : Nat × Operand) => (x.1, a.eval x.2))).run P w = .ok (.slice (some ⟨w.heap.size, 0, none⟩) n n) (w.alloc (.cells us e)) := by
    by_cases hn : n = 0
    · subst hn
      have hm : madeCells z.cells (0 * k.sz) = #[] := by simp [madeCells]
      rw [hm] at hfill
      rw [← hpt] at hfill
      simp only [Instr.buildSlice]
      simp [run_underlying hu, run_sizeOf hie, Nat.zero_mul, hsi, newRow]
      have hpp : (ps.map fun (x : Nat × Operand) => (x.1, a.eval x.2)) = #[] ∧ us = #[] := by
        cases hps : ps.toList with
        | nil =>
          have : ps = #[] := by apply Array.ext'; rw [hps]
          subst this
          simp [Instr.fill] at hfill
          exact ⟨by simp, hfill⟩
        | cons q qs =>
          exfalso
          rw [hpt, hps] at hfill
          simp only [List.map_cons, Instr.fill] at hfill
          have hul : us.size = 0 := by have := hrow.len; rw [hll] at this; simpa using this
          rw [hps] at hall
          cases vs with
          | nil => exact hall.elim
          | cons y ys =>
            obtain ⟨i0, y0⟩ := y
            simp only [List.replicate, fillR] at hl
            split at hl
            · simp at hl
            · cases hl
      obtain ⟨h1, h2⟩ := hpp
      have hps : ps = #[] := by
        have := congrArg Array.size h1
        simp at this
        exact this
      subst hps
      subst h2
      simp [Instr.fill, Result.andThen, Array.range_zero']
    · have hpos : 0 < n * k.sz := Nat.mul_pos (by omega) k.sz_pos
      refine run_buildSlice (P := P) w t e n _ us ie z hu hie hz (by rw [hsi]; omega) (by rw [hsi]; omega) ?_
      rw [hpt, hsi]
      exact hfill
  have hul : us.size = n * k.sz := by have := hrow.len; rw [hll] at this; simpa using this
  refine ⟨.slice (some ⟨w.heap.size, 0, none⟩) n n, w.alloc (.cells us e), .inl ?_, fun _ => .alloc _ _, _, _, Ok1, β1 ++ [.slice (some ⟨w.heap.size, 0, none⟩) n n], h5, ?_, r1.alloc hB _ rfl ?_⟩
  · simp only [execOp, hop]
    rw [Sem.run_bind]
    have e1 : (ps.map fun (x : Nat × Operand) => match x with | (i, x) => (i, a.eval x)) = ps.map fun (x : Nat × Operand) => (x.1, a.eval x.2) := rfl
    rw [e1, hrun]
    rfl
  · exact ⟨by rw [r1.len]; simp, _, _, _, rfl⟩
  · have hst : Stay w (w.alloc (.cells us e)) Ok1 Ok1 := r1.s.stay fun g hg _ => heap_alloc_old w _ g hg
    refine ⟨us.toList, ⟨by simp [hul, hll], .inr ⟨w.heap.size, 0, n, us, by rw [hll], heap_alloc_new w _, by rw [hll]; exact Nat.le_refl _, ?_, by omega, ?_⟩⟩, hrow1.mono fun _ _ => RdC.mono hst⟩
    · have : n * 1 ≤ n * k.sz := Nat.mul_le_mul_left _ k.sz_pos
      simp only [maxLen]; omega
    · rw [hll, List.drop_zero, List.take_of_length_le (by simp [hul])]
theorem run_append_none_at {t ty e : TypeId} {i : TypeInfo} {sz : Nat} (ht : P.underlying t = some (.slice e)) (hi : P.info? e = some i) {v : Value} {n : Nat} {xs : List Value} (hown : OwnsAt w e sz v n xs) (a : Option Addr) :
    (Builtin.append_ #[t, t] ty #[v, .slice a 0 0]).run P w = .ok v w := by
  rcases hown.2 with ⟨rfl, rfl⟩ | ⟨g, o, cap, cur, rfl, _, hnc, _⟩
  · cases a <;> simp [Builtin.append_, run_underlying ht, sizeOf, typeInfo, hi, Builtin.lenOf, Builtin.firstCells, loadCells, loadCellsFrom]
  · cases a <;> simp [Builtin.append_, run_underlying ht, sizeOf, typeInfo, hi, Builtin.lenOf, Builtin.firstCells, hnc, storeCells, loadCells, loadCellsFrom]
/-- An append, run: on a row of the frame's own (or nil), of data. -/
theorem append_run (hT : ttOk P T = true) {t e : TypeId} {k : K} (hek : skind T t = some (e, k)) (ty : TypeId) {v : Value} {n : Nat} {xs : List Value} (hown : OwnsAt w e k.sz v n xs) (hsl : ∃ a n c, v = .slice a n c) {Ok' : Nat → Prop}
    {l2 : List k.ty} {x : Value} (hx : RdS (RdC w Ok' k) w Ok' e k.sz l2 x) (hroom : room T e (n + l2.length)) :
    ∃ v' w' news, (Builtin.append_ #[t, t] ty #[v, x]).run P w = .ok v' w' ∧ OwnsAt w' e k.sz v' (n + l2.length) (xs ++ news) ∧ RdRow (RdC w Ok' k) k.sz l2 news ∧ w.grownBy w' v.ownBlock ∧
      (∀ g, v'.ownBlock = some g → v.ownBlock = some g ∨ w.heap.size ≤ g) ∧ ∃ a n c, v' = .slice a n c := by
  obtain ⟨ie, z, hu, hie, hsi, hby, hz, hzs, _⟩ := skind_facts hT hek
  obtain ⟨te, hte, hr⟩ := someK_iff hroom
  obtain ⟨pe, de, ze, fe⟩ := ti_facts hT hte
  obtain rfl : pe = ie := by have h1 := fe.info; rw [hie] at h1; cases h1; rfl
  rw [← fe.bytes] at hr
  rcases hx with ⟨rfl, a, rfl⟩ | ⟨g, off, cap, cur, tg, fr, rfl, _, hg, hc, hf, hrow⟩
  · refine ⟨v, w, [], run_append_none_at hu hie hown a, by simpa using hown, rfl, ⟨rfl, rfl, rfl, Nat.le_refl _, fun _ _ _ => rfl⟩, fun g h => .inl h, hsl⟩
  · have hlen : ((cur.toList.drop off).take (l2.length * k.sz)).length = l2.length * k.sz := hrow.len
    have h63 : n + l2.length ≤ maxLen := by
      have : (n + l2.length) * 1 ≤ (n + l2.length) * pe.bytes := Nat.mul_le_mul_left _ hby
      simp only [maxLen]; omega
    obtain ⟨v', w', h1, h2, h3, h4, h5⟩ := append_own (P := P) w t ty e pe z k.sz hu hie hz hsi hzs v n xs hown ⟨g, off, none⟩ l2.length cap _ hlen (fun j u hj => by
      rw [Addr.add_lit, cell_of_row w g _ cur tg fr hg]
      rw [List.getElem?_take] at hj
      split at hj
      · simpa using hj
      · cases hj) (RdRow.one (fun _ _ h => h.one) hrow) h63 hr
    exact ⟨v', w', _, h1, h2, hrow, h3, h4, h5⟩
theorem aop_append (hT : ttOk P T = true) (hB : ∀ g, B g → g < w0.heap.size) {o : Oper} {c : Call} (hop : o.op = .call c) (hcal : c.callee = .builtin .append) {st : St} {a : Act} (r : Rel B Ok0 w0 w Ok β st a.tmps.toList) {K : V → St → Prop}
    (h : aop T E o st K) : After P o a B Ok0 w0 w K := by
  simp only [aop, hop, hcal] at h
  split at h
  · rename_i s x t t' hargs hargt
    obtain ⟨htt, h2⟩ := ifK_iff h
    obtain rfl : t = t' := by simpa using htt
    clear h htt
    obtain ⟨ls, h3, hs⟩ := evL_sound r.s h2
    obtain ⟨lx, h4, hx⟩ := evL_sound r.s h3
    clear h2 h3
    have hargs : c.args = #[s, x] := by apply Array.ext'; rw [hargs]
    have hargt : c.argTypes = #[t, t] := by apply Array.ext'; rw [hargt]
    obtain ⟨⟨e, k⟩, hek, h5⟩ := someK_iff h4
    obtain ⟨l2, hl2, h6⟩ := someK_iff h5
    clear h4 h5
    have hxd : isDef (.one lx) = true := deep_def (v := .one lx) hl2
    have hls : All2 (RelL w Ok β) [lx] [a.eval x] := ⟨hx.to (by rintro rfl; simp [isDef] at hxd), trivial⟩
    have hdat0 : RdC w (fun g => Ok g ∨ idBlk β (ownIds [lx]) g) (.slice e k) l2 [a.eval x] := deep_sound r.s.h (fun _ => .inl) hl2 (fun _ => .inr) hls
    obtain ⟨vx, hvx, hdat⟩ := hdat0
    obtain rfl : a.eval x = vx := by cases hvx; rfl
    obtain ⟨β1, Ok1, r1, hOk1, hids, hkeep, hback, _⟩ := r.sink k.flat hls
    have hexec : ∀ v' w', (Builtin.append_ #[t, t] o.type #[a.eval s, a.eval x]).run P w = .ok v' w' → (execOp a.eval o).run P w = .ok (.value v') w' := by
      intro v' w' hr
      simp [execOp, hop, resolve, hcal, hargs, hargt, invoke, builtin, hr]
    have conv : ∀ {news : List Value}, RdRow (RdC w (fun g => Ok g ∨ idBlk β (ownIds [lx]) g) k) k.sz l2 news → RdRow (RdC w Ok1 k) k.sz l2 news := by
      intro news hn
      refine hn.mono fun y c hy => ?_
      cases hf : k.flat with
      | true => exact hy.flat hf
      | false => exact hy.mono ⟨fun g hg => hg.elim (hOk1 g) (hids hf g), fun _ _ _ h => h⟩
    cases ls with
    | own id =>
      obtain ⟨ob, ho, h7⟩ := getK_iff h6
      clear h6
      obtain ⟨b, hb, hro⟩ := r.s.h.obj ho
      cases ob with
      | row e' k' l =>
        obtain ⟨hc3, h8⟩ := ifK_iff h7
        clear h7
        split at h8
        · rename_i he
          have he1 : e = e' := he.1.symm
          have he2 : k' = k := he.2
          subst he1
          subst he2
          obtain ⟨hroom, h9⟩ := h8
          rw [stK_eq] at h9
          have h9 : K (.v (.one (.own id))) (killSt id (.row e k' (l ++ l2)) (sinkSt k'.flat (ownIds [lx]) st)) := h9
          have hbv : b = a.eval s := by have := hs.1; rw [hb] at this; cases this; rfl
          have hcond : k'.flat = true ∨ id ∉ ownIds [lx] := by
            rcases Bool.or_eq_true_iff.1 hc3 with h | h
            · exact .inl h
            · exact .inr (by simpa using h)
          obtain ⟨hb1, ho1⟩ := hkeep id hcond
          have ho1 := ho1 _ _ _ ho
          rw [hb] at hb1
          clear hkeep
          obtain ⟨u1, hu1, xs, hown, hrow⟩ := r1.s.h.obj ho1
          rw [hb1] at hu1
          obtain rfl : b = u1 := Option.some.inj hu1
          have hsl : ∃ a n c, b = .slice a n c := by rw [hbv]; exact hs.2
          obtain ⟨v', w', news, hrun, hown', hnews, hgr, hblk, hsl'⟩ := append_run (P := P) hT hek o.type hown hsl hdat hroom
          rw [hbv] at hrun
          generalize sinkSt k'.flat (ownIds [lx]) st = st1 at h9 r1 ho1
          have hst : Stay w w' Ok1 Ok1 := r1.s.stay fun g hg hok => hgr.block g hg fun h => r1.s.h.okNot b g (List.mem_of_getElem? hb1) (by rw [blkOf_slice hsl, ← h]) hok
          have hoth : ∀ g, g < w.heap.size → blkOf b ≠ some g → w'.heap[g]? = w.heap[g]? := fun g hg hne => hgr.block g hg fun h => hne (by rw [blkOf_slice hsl, ← h])
          have hv' : ∀ g, blkOf v' = some g → (blkOf b = some g ∨ w.heap.size ≤ g) ∧ g < w'.heap.size := fun g hg => by
            rw [blkOf_slice hsl'] at hg
            rw [blkOf_slice hsl]
            exact ⟨hblk g hg, hown'.lt hg⟩
          have hrs := r1.s.turn (w' := w') (v' := v') hb1 hgr.size hoth hv' (f := killL id) rfl (killL_rel hb1 hsl hst) (ob := .row e k' (l ++ l2))
            ⟨xs ++ news, by rw [List.length_append]; exact hown', (hrow.mono fun _ _ => RdC.mono hst).append ((conv hnews).mono fun _ _ => RdC.mono hst)⟩
          refine ⟨v', w', .inl (hexec v' w' hrun), by simp [tame, hop, hcal], _, _, Ok1, _, h9, ?_, r1.turn hB hb1 hgr.size hgr.os hgr.tape hgr.output hoth hv' hrs⟩
          exact ⟨List.getElem?_set_self (List.getElem?_eq_some_iff.1 hb1).1, hsl'⟩
        · exact h8.elim
      | _ => exact h7.elim
    | nils =>
      obtain ⟨hroom, h7⟩ := h6
      rw [stK_eq, newK_eq] at h7
      have hv : a.eval s = .slice none 0 0 := hs
      obtain ⟨v', w', news, hrun, hown', hnews, hgr, hblk, hsl'⟩ := append_run (P := P) hT hek o.type (n := 0) (xs := []) (OwnsAt.nil w e k.sz) ⟨none, 0, 0, rfl⟩ hdat (by rw [Nat.zero_add]; exact hroom)
      rw [← hv] at hrun
      rw [Nat.zero_add, List.nil_append] at hown'
      clear hkeep
      generalize sinkSt k.flat (ownIds [lx]) st = st1 at h7 r1
      have hoth : ∀ g, g < w.heap.size → w'.heap[g]? = w.heap[g]? := fun g hg => hgr.block g hg (by simp [Value.ownBlock])
      have hst : Stay w w' Ok1 Ok1 := r1.s.stay fun g hg _ => hoth g hg
      refine ⟨v', w', .inl (hexec v' w' hrun), by simp [tame, hop, hcal], _, _, Ok1, β1 ++ [v'], h7, ?_, r1.push hB hgr.size hgr.os hgr.tape hgr.output hoth (fun g hg => ?_) ⟨news, hown', (conv hnews).mono fun _ _ => RdC.mono hst⟩⟩
      · exact ⟨by rw [r1.len]; simp, hsl'⟩
      · rw [blkOf_slice hsl'] at hg
        rcases hblk g hg with h | h
        · simp [Value.ownBlock] at h
        · exact ⟨h, hown'.lt hg⟩
    | _ => exact h6.elim
  · exact h.elim
theorem aop_copy (hT : ttOk P T = true) (hB : ∀ g, B g → g < w0.heap.size) {o : Oper} {c : Call} (hop : o.op = .call c) (hcal : c.callee = .builtin .copy) {st : St} {a : Act} (r : Rel B Ok0 w0 w Ok β st a.tmps.toList) {K : V → St → Prop}
    (h : aop T E o st K) : After P o a B Ok0 w0 w K := by
  simp only [aop, hop, hcal] at h
  split at h
  · rename_i s x t t' hargs hargt
    obtain ⟨htt, h2⟩ := ifK_iff h
    obtain rfl : t = t' := by simpa using htt
    clear h htt
    obtain ⟨ls, h3, hs⟩ := evL_sound r.s h2
    obtain ⟨lx, h4, hx⟩ := evL_sound r.s h3
    clear h2 h3
    have hargs : c.args = #[s, x] := by apply Array.ext'; rw [hargs]
    have hargt : c.argTypes = #[t, t] := by apply Array.ext'; rw [hargt]
    obtain ⟨⟨e, k⟩, hek, h5⟩ := someK_iff h4
    obtain ⟨hflat, h5b⟩ := ifK_iff h5
    obtain ⟨l2, hl2, h6⟩ := someK_iff h5b
    clear h4 h5 h5b
    have hxd : isDef (.one lx) = true := deep_def (v := .one lx) hl2
    have hls : All2 (RelL w Ok β) [lx] [a.eval x] := ⟨hx.to (by rintro rfl; simp [isDef] at hxd), trivial⟩
    have hdat0 : RdC w (fun g => Ok g ∨ idBlk β (ownIds [lx]) g) (.slice e k) l2 [a.eval x] := deep_sound r.s.h (fun _ => .inl) hl2 (fun _ => .inr) hls
    obtain ⟨vx, hvx, hdat⟩ := hdat0
    obtain rfl : a.eval x = vx := by cases hvx; rfl
    obtain ⟨ie, z, hu, hie, hsi, hby, hz, hzs, _⟩ := skind_facts hT hek
    cases ls with
    | own id =>
      obtain ⟨ob, ho, h7⟩ := getK_iff h6
      clear h6
      obtain ⟨b, hb, hro⟩ := r.s.h.obj ho
      cases ob with
      | row e' k' l =>
        simp only at h7
        split at h7
        · rename_i he
          have he1 : e = e' := he.1.symm
          have he2 : k' = k := he.2
          subst he1
          subst he2
          rw [setK_eq] at h7
          have h8 : K (.v (.one (.int .i64 (min l2.length l.length : Nat)))) ⟨st.slots, st.heap.set id (.row e k' (l2.take l.length ++ l.drop l2.length))⟩ := h7
          clear h7
          have hbv : b = a.eval s := by have := hs.1; rw [hb] at this; cases this; rfl
          obtain ⟨xs, hown, hrow⟩ := hro
          have hmin : Nat.min l2.length l.length = min l2.length l.length := rfl
          -- the run
          have key : ∃ w' news, (Builtin.copy_ #[t, t] o.type #[a.eval s, a.eval x]).run P w = .ok (.int .i64 (min l2.length l.length : Nat)) w' ∧ OwnsAt w' e k'.sz b l.length (news ++ xs.drop news.length) ∧
              RdRow (RdC w Ok k') k'.sz (l2.take l.length) news ∧ w.grownBy w' b.ownBlock := by
            rcases hown.2 with ⟨hbn, hn⟩ | ⟨g, o0, cap, cur, hbs, hg, hnc, hcm, hcs, htake⟩
            · have hxs : xs = [] := List.eq_nil_of_length_eq_zero (by rw [hown.1, hn]; simp)
              refine ⟨w, [], ?_, by simpa [hxs] using hown, by rw [hn]; simp [RdRow], ⟨rfl, rfl, rfl, Nat.le_refl _, fun _ _ _ => rfl⟩⟩
              rw [← hbv, hbn, hn]
              rcases hdat with ⟨rfl, a0, hv⟩ | ⟨g, off, cap, cur, tg, fr, hv, _⟩
              · cases a0 <;> simp [Builtin.copy_, run_underlying hu, run_sizeOf hie, hv, Builtin.lenOf, Builtin.firstCells, loadCells, loadCellsFrom, goInt]
              · simp [Builtin.copy_, run_underlying hu, run_sizeOf hie, hv, Builtin.lenOf, Builtin.firstCells, loadCells, loadCellsFrom, goInt]
            · rcases hdat with ⟨rfl, a0, hv⟩ | ⟨g2, off, cap2, cur2, tg, fr, hv, _, hg2, hc2, hf2, hrow2⟩
              · refine ⟨w, [], ?_, by simpa using hown, by simp [RdRow], ⟨rfl, rfl, rfl, Nat.le_refl _, fun _ _ _ => rfl⟩⟩
                rw [← hbv, hbs]
                cases a0 <;> simp [Builtin.copy_, run_underlying hu, run_sizeOf hie, hv, Builtin.lenOf, Builtin.firstCells, storeCells, loadCells, loadCellsFrom, goInt]
              · have hnews : RdRow (RdC w (fun g => Ok g ∨ idBlk β (ownIds [lx]) g) k') k'.sz (l2.take l.length) (((cur2.toList.drop off).take (l2.length * k'.sz)).take (l.length * k'.sz)) := hrow2.take l.length
                have hnl := hnews.len
                have hone := RdRow.one (fun _ _ h => RdC.one h) hnews
                generalize hne : ((cur2.toList.drop off).take (l2.length * k'.sz)).take (l.length * k'.sz) = news at hnews hnl hone
                have hlt : (l2.take l.length).length = min l2.length l.length := by rw [List.length_take, Nat.min_comm]
                rw [hlt] at hnl
                have hcellsrun := run_firstCells_some (P := P) w k'.sz (min l2.length l.length) ⟨g2, off, none⟩ l2.length cap2 news hnl (fun j u hj => by
                  rw [Addr.add_lit, cell_of_row w g2 _ cur2 tg fr hg2]
                  rw [← hne, List.getElem?_take] at hj
                  split at hj
                  · rw [List.getElem?_take] at hj
                    split at hj
                    · simpa using hj
                    · cases hj
                  · cases hj)
                have hle : o0 + min l2.length l.length * k'.sz ≤ cur.size := by
                  have : min l2.length l.length * k'.sz ≤ cap * k'.sz := Nat.mul_le_mul_right _ (Nat.le_trans (Nat.min_le_right _ _) hnc)
                  omega
                have hst := run_storeCells_at P g o0 e news 0 cur w hg (by rw [hnl]; omega) hone
                simp only [Nat.add_zero] at hst
                have hdr : (cur.toList.take o0 ++ news ++ cur.toList.drop (o0 + news.length)).drop o0 = news ++ (cur.toList.drop o0).drop news.length := by
                  rw [List.append_assoc, List.drop_append_of_le_length (by rw [List.length_take]; simp; omega), List.drop_of_length_le (by rw [List.length_take]; omega), List.nil_append, List.drop_drop]
                have hfl : RdRow (RdC w Ok k') k'.sz (l2.take l.length) news := hnews.mono fun _ _ h => h.flat hflat
                have hxl := hown.1
                have hnle : news.length ≤ l.length * k'.sz := by rw [hnl]; exact Nat.mul_le_mul_right _ (Nat.min_le_right _ _)
                refine ⟨w.setRow g (cur.toList.take o0 ++ news ++ cur.toList.drop (o0 + news.length)).toArray, news, ?_, ⟨?_, .inr ⟨g, o0, cap, _, hbs, setRow_heap w g cur _ e _ hg, hnc, hcm, ?_, ?_⟩⟩, hfl, ⟨rfl, rfl, rfl, by simp, fun g1 _ hne => setRow_other w g g1 _ fun e => hne (by rw [hbs, e]; rfl)⟩⟩
                · rw [← hbv, hbs, hv]
                  simp [Builtin.copy_, run_underlying hu, run_sizeOf hie, Builtin.lenOf, hsi, hmin, hcellsrun, hst, goInt]
                · rw [List.length_append, List.length_drop]; omega
                · simp only [List.size_toArray, List.length_append, List.length_take, List.length_drop, Array.length_toList]
                  have : l.length * k'.sz ≤ cap * k'.sz := Nat.mul_le_mul_right _ hnc
                  omega
                · rw [List.toList_toArray, hdr, ← htake, List.take_append, List.take_of_length_le hnle, List.drop_take]
          obtain ⟨w', news, hrun, hown', hnews, hgr⟩ := key
          have hsl : ∃ a n c, b = .slice a n c := by rw [hbv]; exact hs.2
          have hoth : ∀ g, g < w.heap.size → blkOf b ≠ some g → w'.heap[g]? = w.heap[g]? := fun g hg hne => hgr.block g hg fun h => hne (by rw [blkOf_slice hsl, ← h])
          have hst : Stay w w' Ok Ok := r.s.stay fun g hg hok => hoth g hg fun h => r.s.h.okNot b g (List.mem_of_getElem? hb) h hok
          have hexec : (execOp a.eval o).run P w = .ok (.value (.int .i64 (min l2.length l.length : Nat))) w' := by
            simp [execOp, hop, resolve, hcal, hargs, hargt, invoke, builtin, hrun]
          refine ⟨_, w', .inl hexec, by simp [tame, hop, hcal], _, _, Ok, β, h8, rfl, r.same hB hb hgr.size hgr.os hgr.tape hgr.output hoth (r.s.same hb hgr.size hoth ?_)⟩
          have hlen : (l2.take l.length ++ l.drop l2.length).length = l.length := by
            rw [List.length_append, List.length_take, List.length_drop]; omega
          refine ⟨news ++ xs.drop news.length, by rw [hlen]; exact hown', ((hnews.mono fun _ _ => RdC.mono hst).append ?_)⟩
          have hd := (hrow.mono fun _ _ => RdC.mono hst).drop l2.length
          have hnl := hnews.len
          have hxl := hown.1
          rw [List.length_take] at hnl
          by_cases hc : l2.length ≤ l.length
          · rw [Nat.min_eq_right hc] at hnl
            rw [hnl]; exact hd
          · have e1 : l.drop l2.length = [] := List.drop_eq_nil_of_le (by omega)
            rw [Nat.min_eq_left (by omega)] at hnl
            have e2 : xs.drop news.length = [] := List.drop_eq_nil_of_le (by omega)
            rw [e1, e2]; rfl
        · exact h7.elim
      | _ => exact h7.elim
    | _ => exact h6.elim
  · exact h.elim
end
end Go.AM
