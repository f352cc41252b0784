/- The abstract machine: walks over strings, maps. Conditions: none. -/
import Derived.Test.YtlfelhdcokadbaaOpB
import Derived.MapKept
set_option linter.all false
namespace Go.AM
open Go.RowKit
section
variable {P : Program} {T : TT} {E : Env} {w w0 : World} {B Ok0 Ok : Nat → Prop} {β : List Value}
theorem isMapT_spec (hT : ttOk P T = true) {t : TypeId} (h : isMapT T t = true) :
    ∃ k e ie, P.underlying t = some (.map k e) ∧ P.underlying k = some .string ∧ P.info? e = some ie ∧ ie.zero = some (.bool false) := by
  unfold isMapT at h
  split at h
  · rename_i i hi
    obtain ⟨⟨k, e⟩, hkv⟩ := Option.isSome_iff_exists.1 h
    obtain ⟨pi, d, z, f⟩ := ti_facts hT hi
    have hk := f.kvp
    unfold kvOk at hk
    rw [hkv] at hk
    simp only [Bool.and_eq_true] at hk
    obtain ⟨⟨h1, h2⟩, h3⟩ := hk
    split at h1
    · rename_i k' e'
      simp only [Bool.and_eq_true, beq_iff_eq] at h1
      split at h2
      · rename_i hu
        split at h3
        · rename_i ie hie
          split at h3
          · rename_i b hz
            have : b = false := by simpa using h3
            subst this
            exact ⟨k, e, ie, by rw [f.und, h1.1, h1.2], hu, hie, hz⟩
          · cases h3
        · cases h3
      · cases h2
    · cases h1
  · cases h
theorem lowB_iff {s : ByteArray} {i : Nat} : lowB s i = true ↔ byteAt s i < 128 := by
  simp only [lowB, byteAt, Nat.blt_eq]; omega
/-- A block turns in place. -/
theorem Rel.put1 {st : St} {tm : List Value} (r : Rel B Ok0 w0 w Ok β st tm) (hB : ∀ g, B g → g < w0.heap.size) {id g : Nat} {v : Value} (hid : β[id]? = some v) (hg : blkOf v = some g) (o : Obj) {ob : Ob}
    (ho : ∀ w' : World, w'.heap[g]? = some o → RelO w' Ok β ob v) : Rel B Ok0 w0 { w with heap := w.heap.setIfInBounds g o } Ok β ⟨st.slots, st.heap.set id ob⟩ tm := by
  have hlt : g < w.heap.size := r.s.h.lt v g (List.mem_of_getElem? hid) hg
  have hoth : ∀ g', g' < w.heap.size → blkOf v ≠ some g' → ({ w with heap := w.heap.setIfInBounds g o } : World).heap[g']? = w.heap[g']? := fun g' _ hne => by
    have : g ≠ g' := fun e => hne (by rw [hg, e])
    simp [Array.getElem?_setIfInBounds_ne this]
  refine r.same (w' := { w with heap := w.heap.setIfInBounds g o }) hB hid (by simp) rfl rfl rfl hoth (r.s.same (w' := { w with heap := w.heap.setIfInBounds g o }) hid (by simp) hoth (ho _ ?_))
  simp [hlt]
theorem aop_nilCheck {o : Oper} {x : Operand} (hop : o.op = .nilCheck x) {st : St} {a : Act} (r : Rel B Ok0 w0 w Ok β st a.tmps.toList) {K : V → St → Prop} (h : aop T E o st K) :
    After P o a B Ok0 w0 w K := by
  simp only [aop, hop] at h
  obtain ⟨l, hq, hr⟩ := evL_sound r.s h
  cases l with
  | ptr id off =>
    obtain ⟨g, h1, h2⟩ := hr
    exact ⟨_, w, .inl (by simp [execOp, hop, h2]), fun _ => .refl w, _, st, Ok, β, hq, ⟨g, h1, rfl⟩, r⟩
  | _ => exact hq.elim
theorem aop_range (hT : ttOk P T = true) (hB : ∀ g, B g → g < w0.heap.size) {o : Oper} {t : TypeId} {x : Operand} (hop : o.op = .range t x) {st : St} {a : Act} (r : Rel B Ok0 w0 w Ok β st a.tmps.toList) {K : V → St → Prop} (h : aop T E o st K) :
    After P o a B Ok0 w0 w K := by
  simp only [aop, hop] at h
  obtain ⟨l, hq, hr⟩ := evL_sound r.s h
  cases l with
  | str s =>
    obtain ⟨hs, hq⟩ := ifK_iff hq
    rw [newK_eq] at hq
    have hv : a.eval x = .string s := hr
    have hrun := run_range_string (P := P) w t s (isStrT_spec hT hs)
    refine ⟨.pointer (some ⟨w.heap.size, 0, none⟩), w.iter s 0, .inl (by simp [execOp, hop, hv, hrun]), fun _ => .alloc _ _, _, _, Ok, β ++ [.pointer (some ⟨w.heap.size, 0, none⟩)], hq, ?_, r.alloc hB _ rfl ?_⟩
    · exact ⟨w.heap.size, by rw [r.len]; simp, rfl⟩
    · exact ⟨w.heap.size, rfl, heap_alloc_new w _⟩
  | _ => exact hq.elim
theorem run_next_at {g : Nat} {s : ByteArray} {pos : Nat} (hg : w.heap[g]? = some (.stringIter s pos)) (ty : TypeId) (h : pos < s.size) :
    (Instr.next (.pointer (some ⟨g, 0, none⟩)) true ty).run P w = .ok (.tuple #[.bool true, .int .i64 pos, .int .i32 (Utf8.decode s pos).1]) { w with heap := w.heap.setIfInBounds g (.stringIter s (pos + (Utf8.decode s pos).2)) } := by
  simp [Instr.next, getObj, setObj, Sem.run, hg, Result.andThen, h, goInt]
theorem tup_one {b : Bool} : RelV w Ok β (.tup [.one (.bool b)]) (.tuple #[.bool b]) := ⟨#[.bool b], rfl, rfl, trivial⟩
theorem tup_three {b : Bool} {x y : Int} : RelV w Ok β (.tup [.one (.bool b), .one (.int .i64 x), .one (.int .i32 y)]) (.tuple #[.bool b, .int .i64 x, .int .i32 y]) :=
  ⟨#[.bool b, .int .i64 x, .int .i32 y], rfl, rfl, rfl, rfl, trivial⟩
theorem aop_next (hB : ∀ g, B g → g < w0.heap.size) {o : Oper} {x : Operand} (hop : o.op = .next x true) {st : St} {a : Act} (r : Rel B Ok0 w0 w Ok β st a.tmps.toList) {K : V → St → Prop} (h : aop T E o st K) :
    After P o a B Ok0 w0 w K := by
  simp only [aop, hop] at h
  obtain ⟨l, hq, hr⟩ := evL_sound r.s h
  split at hq
  · rename_i id
    obtain ⟨ob, ho, hq⟩ := getK_iff hq
    obtain ⟨b, hb, hro⟩ := r.s.h.obj ho
    cases ob with
    | iter s pos =>
      dsimp only at hq
      obtain ⟨g, hbv, hg⟩ := hro
      obtain ⟨g', hb', hpv⟩ := hr
      rw [hb, hbv] at hb'
      obtain rfl : g = g' := by cases hb'; rfl
      have hbl : blkOf b = some g := by rw [hbv]; rfl
      by_cases hp : pos < s.size
      · rw [decide_eq_true hp] at hq
        simp only [brP] at hq
        have hrun := run_next_at (P := P) hg o.type hp
        by_cases hc : byteAt s pos < 128
        · rw [lowB_iff.2 hc] at hq
          simp only [setK_eq] at hq
          have hd := decode_ascii s pos hp (by rw [byteAt_eq hp] at hc; omega)
          rw [hd] at hrun
          rw [← byteAt_eq hp] at hrun
          exact ⟨_, _, .inl (by simp only [execOp, hop, hpv]; rw [Sem.run_bind, hrun]; rfl), by simp [tame, hop], _, _, Ok, β, hq, tup_three, r.put1 hB hb hbl _ fun w' h' => ⟨g, hbv, h'⟩⟩
        · rw [show lowB s pos = false by rw [← Bool.not_eq_true]; exact fun h => hc (lowB_iff.1 h)] at hq
          simp only [setK_eq] at hq
          obtain ⟨h1, h2⟩ := decode_high s pos hp (by rw [byteAt_eq hp] at hc; omega)
          have hq := hq ((Utf8.decode s pos).1 : Int) (by omega) (Utf8.decode s pos).2
          exact ⟨_, _, .inl (by simp only [execOp, hop, hpv]; rw [Sem.run_bind, hrun]; rfl), by simp [tame, hop], _, _, Ok, β, hq, tup_three, r.put1 hB hb hbl _ fun w' h' => ⟨g, hbv, h'⟩⟩
      · rw [decide_eq_false hp] at hq
        simp only [brP] at hq
        have hrun : (Instr.next (.pointer (some ⟨g, 0, none⟩)) true o.type).run P w = .ok (.tuple #[.bool false]) w := by
          simp [Instr.next, getObj, Sem.run, hg, hp]
        exact ⟨_, w, .inl (by simp only [execOp, hop, hpv]; rw [Sem.run_bind, hrun]; rfl), fun _ => .refl w, _, _, Ok, β, hq, tup_one, r⟩
    | _ => exact hq.elim
  · exact hq.elim
theorem aop_makeMap (hB : ∀ g, B g → g < w0.heap.size) {o : Oper} {t : TypeId} (hop : o.op = .makeMap t none) {st : St} {a : Act} (r : Rel B Ok0 w0 w Ok β st a.tmps.toList) {K : V → St → Prop} (h : aop T E o st K) :
    After P o a B Ok0 w0 w K := by
  simp only [aop, hop] at h
  obtain ⟨_, hq⟩ := ifK_iff h
  rw [newK_eq] at hq
  refine ⟨.map (some w.heap.size), w.alloc (.map #[] 0), .inl (by simp [execOp, hop, Instr.makeMap]), fun _ => .alloc _ _, _, _, Ok, β ++ [.map (some w.heap.size)], hq, ?_, r.alloc hB _ rfl ?_⟩
  · exact ⟨by rw [r.len]; simp, w.heap.size, rfl⟩
  · exact ⟨w.heap.size, #[], 0, rfl, heap_alloc_new w _, rfl⟩
/-- A row without its head. -/
theorem aop_sliceOwn (hT : ttOk P T = true) (hB : ∀ g, B g → g < w0.heap.size) {o : Oper} {t : TypeId} {x : Operand} {c : Value} (hop : o.op = .slice t x (some (.const c)) none none) {st : St} {a : Act} (r : Rel B Ok0 w0 w Ok β st a.tmps.toList) {K : V → St → Prop} (h : aop T E o st K) :
    After P o a B Ok0 w0 w K := by
  simp only [aop, hop, sliceOwnK] at h
  obtain ⟨lf, hq, hr⟩ := evL_sound r.s h
  clear h
  cases lf with
  | own id =>
    cases c with
    | int ik A =>
      obtain ⟨ob, ho, h2⟩ := getK_iff hq
      clear hq
      obtain ⟨b, hb, hro⟩ := r.s.h.obj ho
      cases ob with
      | row e k l =>
        obtain ⟨⟨e', k'⟩, hek, h3⟩ := someK_iff h2
        clear h2
        obtain ⟨hsz, ⟨h0, hA, hpos⟩, hq⟩ := ifK_iff h3
        clear h3
        have hsz := Nat.eq_of_beq_eq_true hsz
        simp only at hsz
        rw [stK_eq] at hq
        obtain ⟨ie, z, hu, hie, hsi, _⟩ := skind_facts hT hek
        obtain ⟨d, rfl⟩ := Int.eq_ofNat_of_zero_le h0
        have hdl : d ≤ l.length := by omega
        obtain ⟨hbe, hsl⟩ := hr
        rw [hb] at hbe
        obtain rfl : b = a.eval x := by cases hbe; rfl
        obtain ⟨xs, hown, hrow⟩ := hro
        rcases hown.2 with ⟨_, hn⟩ | ⟨g, o0, cap, cur, hv, hg, hnc, hcm, hcs, htake⟩
        · omega
        have hdc : d ≤ cap := by omega
        have hdc' : (d : Int) ≤ (l.length : Int) := by omega
        have hce : ∀ n : Int, a.eval (.const (.int ik n)) = .int ik n := fun _ => rfl
        have hrun : (execOp a.eval o).run P w = .ok (.value (.slice (some (if cap = d then (⟨g, o0, none⟩ : Addr) else ⟨g, o0 + d * k.sz, none⟩)) (l.length - d) (cap - d))) w := by
          by_cases hcd : cap = d
          · subst hcd
            simp [execOp, hop, Instr.sliceAt, run_underlying hu, Instr.slice, hv, Instr.sliceBounds, Instr.sliceBound, asIntOf, hce, hdl, run_sizeOf hie]
          · simp [execOp, hop, Instr.sliceAt, run_underlying hu, Instr.slice, hv, Instr.sliceBounds, Instr.sliceBound, asIntOf, hce, hdl, run_sizeOf hie, hcd, Addr.add_lit, hsi, hsz]
        have hbl : blkOf (a.eval x) = some g := by rw [hv]; rfl
        have hown' : OwnsAt w e k.sz (.slice (some (if cap = d then (⟨g, o0, none⟩ : Addr) else ⟨g, o0 + d * k.sz, none⟩)) (l.length - d) (cap - d)) (l.drop d).length (xs.drop (d * k.sz)) := by
          have hmul : (l.length - d) * k.sz = l.length * k.sz - d * k.sz := Nat.sub_mul _ _ _
          have hxl := hown.1
          refine ⟨by rw [List.length_drop, List.length_drop, hxl, hmul], ?_⟩
          by_cases hcd : cap = d
          · have hz : l.length - d = 0 := by omega
            refine .inr ⟨g, o0, cap - d, cur, by rw [if_pos hcd, List.length_drop], hg, by rw [List.length_drop]; omega, by omega, ?_, ?_⟩
            · have : (cap - d) * k.sz = 0 := by rw [hcd]; simp
              omega
            · rw [List.length_drop, hz, Nat.zero_mul, List.take_zero, List.drop_of_length_le]
              have : l.length = d := by omega
              rw [hxl, this]; exact Nat.le_refl _
          · refine .inr ⟨g, o0 + d * k.sz, cap - d, cur, by rw [if_neg hcd, List.length_drop], hg, by rw [List.length_drop]; omega, by omega, ?_, ?_⟩
            · have h1 : (cap - d) * k.sz = cap * k.sz - d * k.sz := Nat.sub_mul _ _ _
              have h2 : d * k.sz ≤ cap * k.sz := Nat.mul_le_mul_right _ hdc
              omega
            · rw [← htake, List.drop_take, List.drop_drop, List.length_drop, hmul]
        have hst : Stay w w Ok Ok := .refl w Ok
        have hsl' : ∃ a' n c, (Value.slice (some (if cap = d then (⟨g, o0, none⟩ : Addr) else ⟨g, o0 + d * k.sz, none⟩)) (l.length - d) (cap - d)) = .slice a' n c := ⟨_, _, _, rfl⟩
        have hblk : blkOf (.slice (some (if cap = d then (⟨g, o0, none⟩ : Addr) else ⟨g, o0 + d * k.sz, none⟩)) (l.length - d) (cap - d)) = some g := by
          simp only [blkOf]; split <;> rfl
        generalize hvv : (Value.slice (some (if cap = d then (⟨g, o0, none⟩ : Addr) else ⟨g, o0 + d * k.sz, none⟩)) (l.length - d) (cap - d)) = v' at hrun hown' hsl' hblk
        have hglt : g < w.heap.size := (Array.getElem?_eq_some_iff.1 hg).1
        have hv' : ∀ g1, blkOf v' = some g1 → (blkOf (a.eval x) = some g1 ∨ w.heap.size ≤ g1) ∧ g1 < w.heap.size := fun g1 h1 => by
          rw [hblk] at h1; cases h1; exact ⟨.inl hbl, hglt⟩
        have hrs := r.s.turn (w' := w) (v' := v') hb (Nat.le_refl _) (fun _ _ _ => rfl) hv' (f := killL id) rfl (killL_rel hb hsl hst) (ob := .row e k (l.drop d)) ⟨_, hown', hrow.drop d⟩
        refine ⟨v', w, .inl hrun, fun _ => .refl w, _, _, Ok, β.set id v', hq, ?_, r.turn hB hb (Nat.le_refl _) rfl rfl rfl (fun _ _ _ => rfl) hv' hrs⟩
        exact ⟨List.getElem?_set_self (List.getElem?_eq_some_iff.1 hb).1, hsl'⟩
      | _ => exact h2.elim
    | _ => exact hq.elim
  | _ => exact hq.elim
/-! maps -/
theorem beqB (s t : ByteArray) : (s == t) = decide (s = t) := by
  rw [Bool.eq_iff_iff, MapKept.bytes_beq, decide_eq_true_iff]
theorem findNow_spec {s : ByteArray} : ∀ (es : List MapEntry) (l : List (ByteArray × Bool)) (i : Nat), es.map (fun e => (e.key, e.val)) = l.map (fun p => (Value.string p.1, Value.bool p.2)) →
    (Instr.findNow .string (.string s) es i = some none ∧ mget l s = false ∧ ∀ b, es.map (fun e => (e.key, e.val)) ++ [(.string s, .bool b)] = (mset l s b).map (fun p => (Value.string p.1, Value.bool p.2))) ∨
    ∃ j, Instr.findNow .string (.string s) es i = some (some (i + j, .bool (mget l s))) ∧ (∃ e, es[j]? = some e ∧ e.key = .string s) ∧
      ∀ b, (es.modify j fun e => { e with key := .string s, val := .bool b }).map (fun e => (e.key, e.val)) = (mset l s b).map (fun p => (Value.string p.1, Value.bool p.2))
  | [], [], i, _ => .inl ⟨rfl, rfl, fun _ => rfl⟩
  | [], _ :: _, _, h => by simp at h
  | _ :: _, [], _, h => by simp at h
  | e :: es, (k, v) :: l, i, h => by
    simp only [List.map_cons, List.cons.injEq, Prod.mk.injEq] at h
    obtain ⟨⟨hk, hv⟩, ht⟩ := h
    by_cases he : s = k
    · subst he
      refine .inr ⟨0, ?_, ⟨e, rfl, hk⟩, fun b => ?_⟩
      · simp [Instr.findNow, Instr.sameNow, hk, hv, mget, beqB]
      · simp [List.modify, mset, ht, beqB]
    · have hb : (s == k) = false := by simp [beqB, he]
      have hf : Instr.findNow .string (.string s) (e :: es) i = Instr.findNow .string (.string s) es (i + 1) := by
        simp [Instr.findNow, Instr.sameNow, hk, hb]
      rcases findNow_spec (s := s) es l (i + 1) ht with ⟨h1, h2, h3⟩ | ⟨j, h1, h2, h3⟩
      · refine .inl ⟨by rw [hf, h1], by simp [mget, hb, h2], fun b => ?_⟩
        simp only [List.map_cons, List.cons_append, mset, hb, cond_false, hk, hv]
        rw [h3 b]
      · refine .inr ⟨j + 1, by rw [hf, h1]; simp [mget, hb]; omega, by simpa using h2, fun b => ?_⟩
        simp only [List.modify_succ_cons, List.map_cons, mset, hb, cond_false, hk, hv]
        rw [h3 b]
theorem run_checkKey' {t : TypeId} (h : P.underlying t = some .string) (s : ByteArray) (b : Bool) (w : World) (n : Nat) : (Instr.checkKey b (n + 1) t (.string s)).run P w = .ok () w := by
  unfold Instr.checkKey
  rw [Sem.run_bind, run_underlying h]; rfl
theorem run_checkKey {t : TypeId} (h : P.underlying t = some .string) (s : ByteArray) (b : Bool) (w : World) : (Instr.checkKey b 10000 t (.string s)).run P w = .ok () w := by
  exact run_checkKey' h s b w 9999
theorem run_findKey {t : TypeId} (h : P.underlying t = some .string) (s : ByteArray) (es : List MapEntry) (w : World) {r : Option (Nat × Value)} (hf : Instr.findNow .string (.string s) es 0 = some r) : (Instr.findKey t (.string s) es).run P w = .ok r w := by
  simp [Instr.findKey, run_underlying h, hf]
theorem mapPut_sound (hT : ttOk P T = true) (hB : ∀ g, B g → g < w0.heap.size) {o : Oper} {t : TypeId} {m k x : Operand} (hop : o.op = .insert t m k x ∨ o.op = .mapUpdate t m k x) {st : St} {a : Act} (r : Rel B Ok0 w0 w Ok β st a.tmps.toList) {K : V → St → Prop} (h : mapPutK T st t m k x K) :
    After P o a B Ok0 w0 w K := by
  unfold mapPutK at h
  obtain ⟨l, hq, hr⟩ := evL_sound r.s h
  obtain ⟨kl, hq, hk⟩ := evL_sound r.s hq
  obtain ⟨xl, hq, hx⟩ := evL_sound r.s hq
  cases l with
  | mp id =>
    cases kl with
    | str s =>
      cases xl with
      | bool bv =>
        obtain ⟨ob, ho, hq⟩ := getK_iff hq
        obtain ⟨b, hb, hro⟩ := r.s.h.obj ho
        cases ob with
        | map l =>
          obtain ⟨hm, hq⟩ := ifK_iff hq
          simp only [setK_eq] at hq
          obtain ⟨kt, et, ie, hu, huk, _, _⟩ := isMapT_spec hT hm
          obtain ⟨g, es, ck, hbv, hg, hes⟩ := hro
          obtain ⟨hb', _⟩ := hr
          rw [hb] at hb'
          have hmv : a.eval m = .map (some g) := by cases hb'; exact hbv
          have hkv : a.eval k = .string s := hk
          have hxv : a.eval x = .bool bv := hx
          have hbl : blkOf b = some g := by rw [hbv]; rfl
          have htm : tame o = false := by rcases hop with h | h <;> simp [tame, h]
          have fin : ∀ es' ck', (Instr.mapUpdate t (.map (some g)) (.string s) (.bool bv)).run P w = .ok () { w with heap := w.heap.setIfInBounds g (.map es' ck') } →
              es'.toList.map (fun e : MapEntry => (e.key, e.val)) = (mset l s bv).map (fun p => (Value.string p.1, Value.bool p.2)) → After P o a B Ok0 w0 w K := by
            intro es' ck' hrun hes'
            refine ⟨undef, _, .inr ⟨?_, rfl⟩, by simp [htm], _, _, Ok, β, hq, rfl, r.put1 hB hb hbl (.map es' ck') fun w' h' => ⟨g, es', ck', hbv, h', hes'⟩⟩
            rcases hop with h | h <;> simp [execOp, h, hmv, hkv, hxv, hrun]
          have hck := run_checkKey (P := P) huk s false w
          rcases findNow_spec (s := s) es.toList l 0 hes with ⟨h1, h2, h3⟩ | ⟨j, h1, ⟨e, he, hek⟩, h3⟩
          · have hf := run_findKey (P := P) huk s es.toList w h1
            refine fin (es.push { key := .string s, val := .bool bv, born := ck }) (ck + 1) ?_ (by simpa using h3 bv)
            simp [Instr.mapUpdate, run_underlying hu, getObj, setObj, Sem.run, hg, Result.andThen, hck, hf]
          · rw [Nat.zero_add] at h1
            have hf := run_findKey (P := P) huk s es.toList w h1
            have hej : es[j]? = some e := by simpa using he
            refine fin (es.modify j fun e => { e with key := .string s, val := .bool bv }) ck ?_ (by simpa using h3 bv)
            have hst : (Instr.keyThatStays (((es[j]?).map (·.key)).getD (.string s)) (.string s)).run P w = .ok (.string s) w := by
              have : Instr.sameBits 10000 (.string s) (.string s) = true := by
                unfold Instr.sameBits
                rw [beqB]; exact decide_eq_true rfl
              simp [hej, hek, Instr.keyThatStays, this]
            simp [Instr.mapUpdate, run_underlying hu, getObj, setObj, Sem.run, hg, Result.andThen, hck, hf, hst]
        | _ => exact hq.elim
      | _ => exact hq.elim
    | _ => exact hq.elim
  | _ => exact hq.elim
theorem aop_lookup (hT : ttOk P T = true) {o : Oper} {t : TypeId} {x k : Operand} (hop : o.op = .lookup t x k false) {st : St} {a : Act} (r : Rel B Ok0 w0 w Ok β st a.tmps.toList) {K : V → St → Prop} (h : aop T E o st K) :
    After P o a B Ok0 w0 w K := by
  simp only [aop, hop] at h
  obtain ⟨l, hq, hr⟩ := evL_sound r.s h
  obtain ⟨kl, hq, hk⟩ := evL_sound r.s hq
  cases l with
  | mp id =>
    cases kl with
    | str s =>
      obtain ⟨ob, ho, hq⟩ := getK_iff hq
      obtain ⟨b, hb, hro⟩ := r.s.h.obj ho
      cases ob with
      | map l =>
        dsimp only at hq
        obtain ⟨hm, hq⟩ := ifK_iff hq
        obtain ⟨kt, et, ie, hu, huk, hie, hz⟩ := isMapT_spec hT hm
        obtain ⟨g, es, ck, hbv, hg, hes⟩ := hro
        obtain ⟨hb', _⟩ := hr
        rw [hb] at hb'
        have hmv : a.eval x = .map (some g) := by cases hb'; exact hbv
        have hkv : a.eval k = .string s := hk
        have hck := run_checkKey (P := P) huk s es.isEmpty w
        have hrun : (Instr.lookup t (.map (some g)) (.string s) false).run P w = .ok (.bool (mget l s)) w := by
          rcases findNow_spec (s := s) es.toList l 0 hes with ⟨h1, h2, h3⟩ | ⟨j, h1, _, h3⟩
          · have hf := run_findKey (P := P) huk s es.toList w h1
            have hzv : (zeroValue et).run P w = .ok (.bool false) w := by simp [zeroValue, run_info hie, hz]
            simp [Instr.lookup, run_underlying hu, getObj, Sem.run, hg, Result.andThen, hck, hf, hzv, h2]
          · have hf := run_findKey (P := P) huk s es.toList w h1
            simp [Instr.lookup, run_underlying hu, getObj, Sem.run, hg, Result.andThen, hck, hf]
        exact ⟨_, w, .inl (by simp [execOp, hop, hmv, hkv, hrun]), fun _ => .refl w, _, st, Ok, β, hq, rfl, r⟩
      | _ => exact hq.elim
    | _ => exact hq.elim
  | _ => exact hq.elim
end
end Go.AM
