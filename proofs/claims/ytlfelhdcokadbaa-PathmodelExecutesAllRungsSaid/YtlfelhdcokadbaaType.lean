/- The abstract machine: its types' table against a program; reading values. Conditions: none. -/
import Derived.Test.YtlfelhdcokadbaaData
set_option linter.all false
namespace Go.AM
open Go.RowKit

def all2B {α β : Type} (f : α → β → Bool) : List α → List β → Bool
  | [], [] => true
  | a :: l, b :: m => f a b && all2B f l m
  | _, _ => false
theorem all2B_spec {α β : Type} {f : α → β → Bool} {R : α → β → Prop} (h : ∀ a b, f a b = true → R a b) : ∀ {l : List α} {m : List β}, all2B f l m = true → All2 R l m
  | [], [], _ => trivial
  | a :: l, b :: m, e => by
    simp only [all2B, Bool.and_eq_true] at e
    exact ⟨h _ _ e.1, all2B_spec h e.2⟩
  | [], _ :: _, e => by simp [all2B] at e
  | _ :: _, [], e => by simp [all2B] at e
def zeroB : Lf → Value → Bool
  | .int k x, .int k' y => decide (k = k') && decide (x = y)
  | .bool b, .bool c => b == c
  | .str s, .string t => s.size == 0 && t.size == 0
  | .nils, .slice none 0 0 => true
  | .nilp, .pointer none => true
  | .undef, v => v.oneCell'
  | _, _ => false
theorem bytes_nil {s : ByteArray} (h : s.size = 0) : s = ByteArray.empty := by
  cases s with
  | mk d =>
    simp only [ByteArray.size] at h
    rw [Array.size_eq_zero_iff.1 h]; rfl
theorem zeroB_spec {w : World} {Ok : Nat → Prop} {β : List Value} {l : Lf} {v : Value} (h : zeroB l v = true) : RelL w Ok β l v := by
  cases l with
  | int k x => cases v <;> simp [zeroB] at h; rw [h.1, h.2]; rfl
  | bool b => cases v <;> simp [zeroB] at h; rw [h]; rfl
  | str s => cases v <;> simp only [zeroB, Bool.and_eq_true, beq_iff_eq] at h <;> first | (rw [bytes_nil h.1, bytes_nil h.2]; rfl) | cases h
  | nils => unfold zeroB at h; split at h <;> rename_i e <;> first | (cases e; done) | exact rfl | (cases e; exact rfl) | (rename_i e2 _; cases e2; done) | (rename_i e2; cases e2; done) | (simp at h; done)
  | nilp => unfold zeroB at h; split at h <;> rename_i e <;> first | (cases e; done) | exact rfl | (cases e; exact rfl) | (rename_i e2 _; cases e2; done) | (rename_i e2; cases e2; done) | (simp at h; done)
  | undef => exact h
  | _ => simp [zeroB] at h
def zeroK : K → List Value → Bool
  | .int ik, [.int jk x] => decide (ik = jk) && decide (x = 0)
  | .bool, [.bool b] => !b
  | .str, [.string s] => s.size == 0
  | .pair a b, cs => zeroK a (cs.take a.sz) && zeroK b (cs.drop a.sz)
  | .slice _ _, [.slice none 0 0] => true
  | _, _ => false
theorem zeroK_spec {w : World} {Ok : Nat → Prop} : ∀ {k : K} {cs : List Value}, zeroK k cs = true → RdC w Ok k k.dflt cs := by
  intro k
  induction k with
  | int ik =>
    intro cs h
    cases cs with
    | nil => simp [zeroK] at h
    | cons v r =>
      cases r with
      | nil =>
        cases v <;> simp [zeroK] at h
        rw [← h.1, h.2]; rfl
      | cons _ _ => simp [zeroK] at h
  | bool =>
    intro cs h
    cases cs with
    | nil => simp [zeroK] at h
    | cons v r =>
      cases r with
      | nil =>
        cases v <;> simp [zeroK] at h
        rw [h]; rfl
      | cons _ _ => simp [zeroK] at h
  | str =>
    intro cs h
    cases cs with
    | nil => simp [zeroK] at h
    | cons v r =>
      cases r with
      | nil =>
        cases v <;> simp only [zeroK, beq_iff_eq] at h <;> first | (rw [bytes_nil h]; rfl) | cases h
      | cons _ _ => simp [zeroK] at h
  | pair a b iha ihb =>
    intro cs h
    simp only [zeroK, Bool.and_eq_true] at h
    exact ⟨cs.take a.sz, cs.drop a.sz, by simp, iha h.1, ihb h.2⟩
  | slice e k _ =>
    intro cs h
    unfold zeroK at h
    split at h <;> first | exact ⟨_, rfl, .inl ⟨rfl, none, rfl⟩⟩ | (rename_i e; cases e; done) | (simp at h; done)

/-- Whether a value is a struct or an array. -/
def isAggV : Value → Bool
  | .agg _ => true
  | _ => false
def aggOf : TypeDesc → Bool
  | .struct _ => true
  | .array _ _ => true
  | _ => false
def fieldOk (P : Program) (x : Nat × Nat × Bool) (f : Field) : Bool :=
  f.offset == x.1 && decide (0 < x.2.1) && (match P.info? f.type with | some i => i.size == x.2.1 | none => false) && (match P.underlying f.type with | some d => aggOf d == x.2.2 | none => false)
def sliceOk (P : Program) (e : TypeId) (k : K) : Bool :=
  match P.info? e with
  | some ie => ie.size == k.sz && decide (0 < ie.bytes) && (match ie.zero with | some z => zeroK k z.cells.toList | none => false)
  | none => false
def kdOk : Option K → TypeDesc → Bool
  | some (.slice e _), .slice e' => e == e'
  | some (.slice _ _), _ => false
  | some .bool, .bool => true
  | some .bool, _ => false
  | some .str, .string => true
  | some .str, _ => false
  | _, _ => true
def descOk (P : Program) (d : TypeDesc) (i : TI) : Bool :=
  match d with
  | .struct fs => Nat.beq i.len 0 && all2B (fieldOk P) i.fields fs.toList
  | .array n e => i.len == n && i.elem == e && (match P.info? e, P.underlying e with
    | some ie, some de => i.fields == (List.range n).map fun j => (j * ie.size, ie.size, aggOf de)
    | _, _ => false)
  | .slice e => Nat.beq i.len 0 && i.fields.isEmpty && (match i.kd with
    | some (.slice _ k) => sliceOk P e k
    | _ => true)
  | _ => Nat.beq i.len 0 && i.fields.isEmpty
def kvOk (P : Program) (i : TI) (d : TypeDesc) : Bool :=
  match i.kv with
  | none => true
  | some (k, e) => (match d with | .map k' e' => k == k' && e == e' | _ => false) && (match P.underlying k with | some .string => true | _ => false) &&
      (match P.info? e with | some ie => (match ie.zero with | some (.bool b) => !b | _ => false) | none => false)
def tiOk (P : Program) (t : TypeId) (i : TI) : Bool :=
  match P.info? t, P.underlying t with
  | some pi, some d => pi.size == i.zero.length && pi.bytes == i.bytes && aggOf d == i.agg && kdOk i.kd d && (descOk P d i && kvOk P i d) &&
      (match pi.zero with
       | some z => all2B zeroB i.zero z.cells.toList && (isAggV z == i.agg)
       | none => false)
  | _, _ => false
def ttOk (P : Program) (T : TT) : Bool := T.all fun x => tiOk P x.1 x.2
structure TiFacts (P : Program) (t : TypeId) (i : TI) (pi : TypeInfo) (d : TypeDesc) (z : Value) : Prop where
  info : P.info? t = some pi
  und : P.underlying t = some d
  size : pi.size = i.zero.length
  bytes : pi.bytes = i.bytes
  agg : aggOf d = i.agg
  kd : kdOk i.kd d = true
  desc : descOk P d i = true
  kvp : kvOk P i d = true
  zero : pi.zero = some z
  zeroR : ∀ w Ok β, All2 (RelL w Ok β) i.zero z.cells.toList
  zeroA : isAggV z = i.agg
theorem tget_mem {T : TT} {t : TypeId} {i : TI} (h : tget T t = some i) : (t, i) ∈ T := by
  induction T with
  | nil => simp [tget] at h
  | cons x T ih =>
    obtain ⟨u, j⟩ := x
    simp only [tget] at h
    split at h
    · cases h; rename_i e; subst e; simp
    · exact List.mem_cons_of_mem _ (ih h)
theorem ti_facts {P : Program} {T : TT} {t : TypeId} {i : TI} (hT : ttOk P T = true) (h : tget T t = some i) : ∃ pi d z, TiFacts P t i pi d z := by
  have := List.all_eq_true.1 hT _ (tget_mem h)
  simp only [tiOk] at this
  split at this
  · rename_i pi d h1 h2
    simp only [Bool.and_eq_true] at this
    obtain ⟨⟨⟨⟨⟨a1, a2⟩, a3⟩, a4⟩, a5⟩, a6⟩ := this
    split at a6
    · rename_i z hz
      simp only [Bool.and_eq_true] at a6
      exact ⟨pi, d, z, h1, h2, by simpa using a1, by simpa using a2, by simpa using a3, a4, a5.1, a5.2, hz, fun w Ok β => all2B_spec (fun _ _ => zeroB_spec) a6.1, by simpa using a6.2⟩
    · cases a6
  · cases this
/-- A slice type's facts. -/
theorem skind_facts {P : Program} {T : TT} {t : TypeId} {e : TypeId} {k : K} (hT : ttOk P T = true) (h : skind T t = some (e, k)) :
    ∃ ie z, P.underlying t = some (.slice e) ∧ P.info? e = some ie ∧ ie.size = k.sz ∧ 0 < ie.bytes ∧ ie.zero = some z ∧ z.cells.size = k.sz ∧ ∀ w Ok, RdC w Ok k k.dflt z.cells.toList := by
  unfold skind at h
  split at h
  · rename_i i hi
    split at h
    · rename_i e' k' hk
      cases h
      obtain ⟨pi, d, z, f⟩ := ti_facts hT hi
      have hd := f.desc
      have hkd := f.kd
      rw [hk] at hkd
      cases d <;> simp [kdOk] at hkd
      subst hkd
      simp only [descOk, hk, sliceOk, Bool.and_eq_true] at hd
      replace hd := hd.2
      split at hd
      · rename_i ie hie
        simp only [Bool.and_eq_true, beq_iff_eq, decide_eq_true_eq] at hd
        obtain ⟨⟨h1, h2⟩, h3⟩ := hd
        split at h3
        · rename_i z hz
          have hr : ∀ w Ok, RdC w Ok k k.dflt z.cells.toList := fun w Ok => zeroK_spec h3
          exact ⟨ie, z, f.und, hie, h1, h2, hz, by simpa using (hr default (fun _ => True)).len, hr⟩
        · cases h3
      · cases hd
    · cases h
  · cases h

/-! ### operands -/
section
variable {w : World} {Ok : Nat → Prop} {β : List Value}
theorem constV_rel {v : Value} {x : V1} (h : constV v = some x) : RelV1 w Ok β x v := by
  unfold constV at h
  split at h <;> cases h <;> first | rfl | trivial
theorem evK_sound {st : St} {a : Act} (r : RelS w Ok β st a.tmps.toList) {o : Operand} {Q : V → Prop} (h : evK st o Q) : ∃ v, Q v ∧ RelV w Ok β v (a.eval o) := by
  cases o with
  | tmp t =>
    obtain ⟨v, hv, hq⟩ := getK_iff h
    obtain ⟨b, hb, hr⟩ := r.s.get hv
    refine ⟨v, hq, ?_⟩
    have : a.eval (.tmp t) = b := by
      have hb' : a.tmps[t]? = some b := by simpa using hb
      show a.tmps.getD t undef = b
      simp [hb']
    rw [this]; exact hr
  | const c =>
    obtain ⟨x, hx, hq⟩ := someK_iff h
    exact ⟨_, hq, constV_rel hx⟩
  | global _ => exact h.elim
  | func _ => exact h.elim
theorem ev1_sound {st : St} {a : Act} (r : RelS w Ok β st a.tmps.toList) {o : Operand} {Q : V1 → Prop} (h : ev1 st o Q) : ∃ v, Q v ∧ RelV1 w Ok β v (a.eval o) := by
  obtain ⟨v, hq, hr⟩ := evK_sound r h
  cases v with
  | v x => exact ⟨x, hq, hr⟩
  | tup _ => exact hq.elim
theorem evL_sound {st : St} {a : Act} (r : RelS w Ok β st a.tmps.toList) {o : Operand} {Q : Lf → Prop} (h : evL st o Q) : ∃ l, Q l ∧ RelV1 w Ok β (.one l) (a.eval o) := by
  obtain ⟨v, hq, hr⟩ := ev1_sound r h
  cases v with
  | one l => exact ⟨l, hq, hr⟩
  | agg _ => exact hq.elim
theorem evI_sound {st : St} {a : Act} (r : RelS w Ok β st a.tmps.toList) {o : Operand} {Q : IntKind → Int → Prop} (h : evI st o Q) : ∃ k x, Q k x ∧ a.eval o = .int k x := by
  obtain ⟨l, hq, hr⟩ := evL_sound r h
  cases l <;> first | exact hq.elim | exact ⟨_, _, hq, hr⟩
theorem optI_sound {st : St} {a : Act} (r : RelS w Ok β st a.tmps.toList) {o : Option Operand} {d : Int} {Q : Int → Prop} (h : optI st o d Q) :
    ∃ x, Q x ∧ ((o = none ∧ x = d) ∨ ∃ y k, o = some y ∧ a.eval y = .int k x) := by
  cases o with
  | none => exact ⟨d, h, .inl ⟨rfl, rfl⟩⟩
  | some y =>
    obtain ⟨k, x, hq, hx⟩ := evI_sound r h
    exact ⟨x, hq, .inr ⟨y, k, rfl, hx⟩⟩
theorem partsK_sound {st : St} {a : Act} (r : RelS w Ok β st a.tmps.toList) : ∀ {ps : List (Nat × Operand)} {Q : List (Nat × V1) → Prop}, partsK st ps Q →
    ∃ vs, Q vs ∧ All2 (fun x (p : Nat × Value) => x.1 = p.1 ∧ RelV1 w Ok β x.2 p.2) vs (ps.map fun p => (p.1, a.eval p.2))
  | [], _, h => ⟨[], h, trivial⟩
  | (i, o) :: ps, Q, h => by
    obtain ⟨v, hq, hr⟩ := ev1_sound r h
    obtain ⟨vs, hq', hr'⟩ := partsK_sound r hq
    exact ⟨_, hq', ⟨rfl, hr⟩, hr'⟩
/-- Cells of a value. -/
theorem RelV1.cells {x : V1} {v : Value} (h : RelV1 w Ok β x v) (hd : isDef x = true) : All2 (RelL w Ok β) x.ls v.cells.toList ∧ oneCells v.cells.toList := by
  cases x with
  | one l =>
    have hl : l ≠ .undef := by rintro rfl; simp [isDef] at hd
    have hs : l ≠ .skip := by rintro rfl; simp [isDef] at hd
    have h1 := h.to hl
    have h2 := h1.def1 hs
    have : v.cells = #[v] := by cases v <;> simp [Value.oneCell'] at h2 <;> rfl
    rw [this]
    exact ⟨⟨h1, trivial⟩, fun u hu => by simp at hu; rw [hu]; exact h2⟩
  | agg ls =>
    obtain ⟨vs, rfl, hr⟩ := h
    refine ⟨hr, ?_⟩
    intro u hu
    obtain ⟨i, hi⟩ := List.getElem?_of_mem hu
    simp only [Value.cells] at hi
    have hlen := hr.length
    have hlt : i < ls.length := by
      have := (List.getElem?_eq_some_iff.1 hi).1
      omega
    obtain ⟨b, hb, hrb⟩ := hr.get (List.getElem?_eq_getElem hlt)
    rw [hi] at hb
    cases hb
    refine hrb.def1 ?_
    intro e
    simp only [isDef, List.all_eq_true] at hd
    have := hd ls[i] (List.getElem_mem hlt)
    rw [e] at this
    simp at this
end
end Go.AM
