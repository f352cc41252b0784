/- What the abstract machine's states say of a world. Conditions: none. -/
import Derived.Test.YtlfelhdcokadbaaAm
set_option linter.all false
namespace Go.AM
open Go.RowKit

/-! ### two lists, place by place -/
def All2 {α β : Type} (R : α → β → Prop) : List α → List β → Prop
  | [], [] => True
  | a :: l, b :: m => R a b ∧ All2 R l m
  | _, _ => False
section
variable {α β : Type} {R R' : α → β → Prop}
theorem All2.length : ∀ {l : List α} {m : List β}, All2 R l m → l.length = m.length
  | [], [], _ => rfl
  | _ :: l, _ :: m, h => by simp [All2.length h.2]
theorem All2.mono (hm : ∀ a b, R a b → R' a b) : ∀ {l : List α} {m : List β}, All2 R l m → All2 R' l m
  | [], [], _ => trivial
  | _ :: _, _ :: _, h => ⟨hm _ _ h.1, All2.mono hm h.2⟩
theorem All2.mono_mem : ∀ {l : List α} {m : List β}, (∀ a b, a ∈ l → R a b → R' a b) → All2 R l m → All2 R' l m
  | [], [], _, _ => trivial
  | _ :: _, _ :: _, hm, h => ⟨hm _ _ (by simp) h.1, All2.mono_mem (fun a b ha => hm a b (by simp [ha])) h.2⟩
theorem All2.mono_mem' : ∀ {l : List α} {m : List β}, (∀ a b, b ∈ m → R a b → R' a b) → All2 R l m → All2 R' l m
  | [], [], _, _ => trivial
  | _ :: _, _ :: _, hm, h => ⟨hm _ _ (by simp) h.1, All2.mono_mem' (fun a b hb => hm a b (by simp [hb])) h.2⟩
theorem All2.append : ∀ {l : List α} {m : List β} {l' : List α} {m' : List β}, All2 R l m → All2 R l' m' → All2 R (l ++ l') (m ++ m')
  | [], [], _, _, _, h' => h'
  | _ :: _, _ :: _, _, _, h, h' => ⟨h.1, All2.append h.2 h'⟩
theorem All2.get : ∀ {l : List α} {m : List β} {i : Nat} {a : α}, All2 R l m → l[i]? = some a → ∃ b, m[i]? = some b ∧ R a b
  | [], [], _, _, _, h => by simp at h
  | _ :: _, b :: _, 0, _, h, e => by simp at e; subst e; exact ⟨b, by simp, h.1⟩
  | _ :: l, _ :: m, i + 1, a, h, e => by
    have := All2.get (l := l) (m := m) (i := i) (a := a) h.2 (by simpa using e)
    simpa using this
theorem All2.take : ∀ {l : List α} {m : List β} (n : Nat), All2 R l m → All2 R (l.take n) (m.take n)
  | [], [], n, _ => by simp [All2]
  | _ :: _, _ :: _, 0, _ => by simp [All2]
  | _ :: _, _ :: _, n + 1, h => ⟨h.1, All2.take n h.2⟩
theorem All2.drop : ∀ {l : List α} {m : List β} (n : Nat), All2 R l m → All2 R (l.drop n) (m.drop n)
  | [], [], n, _ => by simp [All2]
  | _ :: _, _ :: _, 0, h => h
  | _ :: _, _ :: _, n + 1, h => All2.drop n h.2
theorem All2.map {γ : Type} (f : γ → α) : ∀ {l : List γ} {m : List β}, All2 (fun a b => R (f a) b) l m → All2 R (l.map f) m
  | [], [], _ => trivial
  | _ :: _, _ :: _, h => ⟨h.1, All2.map f h.2⟩
theorem All2.set : ∀ {l : List α} {m : List β} (i : Nat) {a : α} {b : β}, All2 R l m → R a b → All2 R (l.set i a) (m.set i b)
  | [], [], _, _, _, _, _ => trivial
  | _ :: _, _ :: _, 0, _, _, h, hr => ⟨hr, h.2⟩
  | _ :: _, _ :: _, i + 1, _, _, h, hr => ⟨h.1, All2.set i h.2 hr⟩
theorem All2.split : ∀ {l l' : List α} {m : List β}, All2 R (l ++ l') m → ∃ m1 m2, m = m1 ++ m2 ∧ All2 R l m1 ∧ All2 R l' m2
  | [], _, m, h => ⟨[], m, rfl, trivial, h⟩
  | _ :: l, l', b :: m, h => by
    obtain ⟨m1, m2, e, h1, h2⟩ := All2.split (l := l) (l' := l') (m := m) h.2
    exact ⟨b :: m1, m2, by simp [e], ⟨h.1, h1⟩, h2⟩
theorem All2.put {l vs : List α} {m us : List β} (off : Nat) (h : All2 R l m) (hv : All2 R vs us) : All2 R (putL l off vs) (putL m off us) := by
  unfold putL
  rw [hv.length]
  exact ((h.take off).append hv).append (h.drop _)
theorem All2.nil_left {m : List β} (h : All2 R [] m) : m = [] := by
  cases m with
  | nil => rfl
  | cons b m => exact h.elim
theorem All2.of_get : ∀ {l : List α} {m : List β}, l.length = m.length → (∀ (i : Nat) a b, l[i]? = some a → m[i]? = some b → R a b) → All2 R l m
  | [], [], _, _ => trivial
  | a :: l, b :: m, hl, h => ⟨h 0 a b rfl rfl, All2.of_get (by simpa using hl) fun i x y hx hy => h (i + 1) x y (by simpa using hx) (by simpa using hy)⟩
end

/-! ### data in memory -/
def oneCells (cs : List Value) : Prop := ∀ u ∈ cs, u.oneCell' = true
def RdRow {α : Type} (R : α → List Value → Prop) (sz : Nat) : List α → List Value → Prop
  | [], cs => cs = []
  | x :: l, cs => ∃ c d, cs = c ++ d ∧ c.length = sz ∧ R x c ∧ RdRow R sz l d
/-- A slice that is only read: nil, or a stretch of a row whose block is allowed. -/
def RdS {α : Type} (R : α → List Value → Prop) (w : World) (Ok : Nat → Prop) (e : TypeId) (sz : Nat) (l : List α) (v : Value) : Prop :=
  (l = [] ∧ ∃ a, v = .slice a 0 0) ∨
  ∃ g off cap cur t fr, v = .slice (some ⟨g, off, none⟩) l.length cap ∧ Ok g ∧ w.heap[g]? = some (.cells cur t fr) ∧ l.length ≤ cap ∧ off + l.length * sz ≤ cur.size ∧
    RdRow R sz l ((cur.toList.drop off).take (l.length * sz))
def RdC (w : World) (Ok : Nat → Prop) : (k : K) → k.ty → List Value → Prop
  | .int ik, x, cs => cs = [.int ik x]
  | .bool, b, cs => cs = [.bool b]
  | .str, s, cs => cs = [.string s]
  | .pair a b, x, cs => ∃ c d, cs = c ++ d ∧ RdC w Ok a x.1 c ∧ RdC w Ok b x.2 d
  | .slice e k, l, cs => ∃ v, cs = [v] ∧ RdS (RdC w Ok k) w Ok e k.sz l v
theorem K.sz_pos : ∀ k : K, 0 < k.sz
  | .int _ => Nat.one_pos
  | .bool => Nat.one_pos
  | .str => Nat.one_pos
  | .pair a b => Nat.lt_of_lt_of_le (K.sz_pos a) (Nat.le_add_right _ _)
  | .slice _ _ => Nat.one_pos
theorem RdC.len {w : World} {Ok : Nat → Prop} : ∀ {k : K} {x : k.ty} {cs : List Value}, RdC w Ok k x cs → cs.length = k.sz
  | .int _, _, _, h => by rw [show _ = [_] from h]; rfl
  | .bool, _, _, h => by rw [show _ = [_] from h]; rfl
  | .str, _, _, h => by rw [show _ = [_] from h]; rfl
  | .pair a b, x, cs, h => by
    obtain ⟨c, d, rfl, h1, h2⟩ := h
    rw [List.length_append, RdC.len h1, RdC.len h2]; rfl
  | .slice _ _, _, _, h => by obtain ⟨v, rfl, _⟩ := h; rfl
theorem RdC.one {w : World} {Ok : Nat → Prop} : ∀ {k : K} {x : k.ty} {cs : List Value}, RdC w Ok k x cs → oneCells cs
  | .int _, _, _, h => by rw [show _ = [_] from h]; simp [oneCells, Value.oneCell']
  | .bool, _, _, h => by rw [show _ = [_] from h]; simp [oneCells, Value.oneCell']
  | .str, _, _, h => by rw [show _ = [_] from h]; simp [oneCells, Value.oneCell']
  | .pair a b, x, cs, h => by
    obtain ⟨c, d, rfl, h1, h2⟩ := h
    intro u hu
    rcases List.mem_append.1 hu with hu | hu
    · exact RdC.one h1 u hu
    · exact RdC.one h2 u hu
  | .slice _ _, _, _, h => by
    obtain ⟨v, rfl, h⟩ := h
    rcases h with ⟨_, a, rfl⟩ | ⟨g, off, cap, cur, t, fr, rfl, _⟩ <;> simp [oneCells, Value.oneCell']
section
variable {α : Type} {R R' : α → List Value → Prop} {sz : Nat}
theorem RdRow.mono (hm : ∀ x c, R x c → R' x c) : ∀ {l : List α} {cs : List Value}, RdRow R sz l cs → RdRow R' sz l cs
  | [], _, h => h
  | _ :: _, _, ⟨c, d, e, hc, h1, h2⟩ => ⟨c, d, e, hc, hm _ _ h1, RdRow.mono hm h2⟩
theorem RdRow.len : ∀ {l : List α} {cs : List Value}, RdRow R sz l cs → cs.length = l.length * sz
  | [], _, h => by rw [show _ = [] from h]; simp
  | _ :: l, _, ⟨c, d, e, hc, _, h2⟩ => by rw [e, List.length_append, hc, RdRow.len h2, List.length_cons, Nat.add_mul]; omega
theorem RdRow.append : ∀ {l : List α} {cs : List Value} {l' : List α} {cs' : List Value}, RdRow R sz l cs → RdRow R sz l' cs' → RdRow R sz (l ++ l') (cs ++ cs')
  | [], _, _, _, h, h' => by rw [show _ = [] from h]; exact h'
  | _ :: _, _, _, _, ⟨c, d, e, hc, h1, h2⟩, h' => ⟨c, d ++ _, by rw [e, List.append_assoc], hc, h1, RdRow.append h2 h'⟩
theorem RdRow.get : ∀ {l : List α} {cs : List Value} {i : Nat} {x : α}, RdRow R sz l cs → l[i]? = some x → R x ((cs.drop (i * sz)).take sz)
  | [], _, _, _, _, h => by simp at h
  | _ :: _, _, 0, _, ⟨c, d, e, hc, h1, _⟩, h => by
    simp at h; subst h
    have : (c ++ d).take sz = c := by rw [← hc, List.take_left]
    simpa [e, this] using h1
  | _ :: l, cs, i + 1, x, ⟨c, d, e, hc, _, h2⟩, h => by
    have := RdRow.get (l := l) (cs := d) (i := i) (x := x) h2 (by simpa using h)
    have e2 : (c ++ d).drop ((i + 1) * sz) = d.drop (i * sz) := by
      rw [Nat.add_mul, Nat.one_mul, Nat.add_comm, ← hc, List.drop_append]; simp
    rw [e, e2]; exact this
theorem RdRow.drop : ∀ {l : List α} {cs : List Value} (i : Nat), RdRow R sz l cs → RdRow R sz (l.drop i) (cs.drop (i * sz))
  | [], _, i, h => by rw [show _ = [] from h]; simp [RdRow]
  | _ :: _, _, 0, h => by simpa using h
  | _ :: l, cs, i + 1, ⟨c, d, e, hc, _, h2⟩ => by
    have e2 : (c ++ d).drop ((i + 1) * sz) = d.drop (i * sz) := by
      rw [Nat.add_mul, Nat.one_mul, Nat.add_comm, ← hc, List.drop_append]; simp
    rw [e, e2]; exact RdRow.drop i h2
theorem RdRow.take : ∀ {l : List α} {cs : List Value} (i : Nat), RdRow R sz l cs → RdRow R sz (l.take i) (cs.take (i * sz))
  | [], _, i, h => by rw [show _ = [] from h]; simp [RdRow]
  | _ :: _, _, 0, h => by simp [RdRow]
  | _ :: l, cs, i + 1, ⟨c, d, e, hc, h1, h2⟩ => by
    have e2 : (c ++ d).take ((i + 1) * sz) = c ++ d.take (i * sz) := by
      rw [Nat.add_mul, Nat.one_mul, Nat.add_comm, ← hc, List.take_append, List.take_of_length_le (Nat.le_add_right _ _)]; simp
    rw [e, e2]; exact ⟨c, _, rfl, hc, h1, RdRow.take i h2⟩
theorem RdRow.set : ∀ {l : List α} {cs : List Value} {i : Nat} {x : α} {c : List Value}, RdRow R sz l cs → i < l.length → R x c → c.length = sz → RdRow R sz (l.set i x) (putL cs (i * sz) c)
  | [], _, _, _, _, _, h, _, _ => by simp at h
  | _ :: _, _, 0, x, c', ⟨c, d, e, hc, h1, h2⟩, _, hx, hl => by
    refine ⟨c', d, ?_, hl, hx, h2⟩
    simp [putL, e, hl, ← hc]
  | _ :: l, cs, i + 1, x, c', ⟨c, d, e, hc, h1, h2⟩, hi, hx, hl => by
    refine ⟨c, putL d (i * sz) c', ?_, hc, h1, RdRow.set h2 (by simpa using hi) hx hl⟩
    have e1 : (c ++ d).take ((i + 1) * sz) = c ++ d.take (i * sz) := by
      rw [Nat.add_mul, Nat.one_mul, Nat.add_comm, ← hc, List.take_append, List.take_of_length_le (Nat.le_add_right _ _)]; simp
    have e2 : (c ++ d).drop ((i + 1) * sz + c'.length) = d.drop (i * sz + c'.length) := by
      rw [Nat.add_mul, Nat.one_mul, Nat.add_comm (i * sz), Nat.add_assoc, ← hc, List.drop_append]; simp
    simp only [putL, e, e1, e2, List.append_assoc]
theorem RdRow.one (hR : ∀ x c, R x c → oneCells c) : ∀ {l : List α} {cs : List Value}, RdRow R sz l cs → oneCells cs
  | [], _, h => by rw [show _ = [] from h]; simp [oneCells]
  | _ :: _, _, ⟨c, d, e, _, h1, h2⟩ => by
    intro u hu
    rw [e] at hu
    rcases List.mem_append.1 hu with hu | hu
    · exact hR _ _ h1 u hu
    · exact RdRow.one hR h2 u hu
theorem RdRow.replicate {x : α} {c : List Value} (hx : R x c) (hc : c.length = sz) : ∀ n, RdRow R sz (List.replicate n x) (List.replicate n c).flatten
  | 0 => by simp [RdRow]
  | n + 1 => ⟨c, (List.replicate n c).flatten, by simp [List.replicate_succ], hc, hx, RdRow.replicate hx hc n⟩
end

/-- What is allowed stays as it is, and allowed. -/
structure Stay (w w' : World) (Ok Ok' : Nat → Prop) : Prop where
  ok : ∀ g, Ok g → Ok' g
  blk : ∀ g o, Ok g → w.heap[g]? = some o → w'.heap[g]? = some o
theorem Stay.refl (w : World) (Ok : Nat → Prop) : Stay w w Ok Ok := ⟨fun _ h => h, fun _ _ _ h => h⟩
theorem RdS.mono {α : Type} {R R' : α → List Value → Prop} {w w' : World} {Ok Ok' : Nat → Prop} (hs : Stay w w' Ok Ok') (hm : ∀ x c, R x c → R' x c) {e : TypeId} {sz : Nat} {l : List α} {v : Value}
    (h : RdS R w Ok e sz l v) : RdS R' w' Ok' e sz l v := by
  rcases h with h | ⟨g, off, cap, cur, t, fr, hv, ho, hg, hc, hf, hr⟩
  · exact .inl h
  · exact .inr ⟨g, off, cap, cur, t, fr, hv, hs.ok g ho, hs.blk g _ ho hg, hc, hf, hr.mono hm⟩
theorem RdC.mono {w w' : World} {Ok Ok' : Nat → Prop} (hs : Stay w w' Ok Ok') : ∀ {k : K} {x : k.ty} {cs : List Value}, RdC w Ok k x cs → RdC w' Ok' k x cs
  | .int _, _, _, h => h
  | .bool, _, _, h => h
  | .str, _, _, h => h
  | .pair a b, x, cs, ⟨c, d, e, h1, h2⟩ => ⟨c, d, e, RdC.mono hs h1, RdC.mono hs h2⟩
  | .slice e k, l, cs, ⟨v, hv, h⟩ => ⟨v, hv, h.mono hs fun _ _ => RdC.mono hs⟩

/-! ### a row of one's own -/
def OwnsAt (w : World) (e : TypeId) (sz : Nat) (v : Value) (n : Nat) (xs : List Value) : Prop :=
  xs.length = n * sz ∧ ((v = .slice none 0 0 ∧ n = 0) ∨
    ∃ g o cap cur, v = .slice (some ⟨g, o, none⟩) n cap ∧ w.heap[g]? = some (.cells cur e (0, 0)) ∧ n ≤ cap ∧ cap ≤ maxLen ∧ o + cap * sz ≤ cur.size ∧ (cur.toList.drop o).take (n * sz) = xs)
theorem OwnsAt.nil (w : World) (e : TypeId) (sz : Nat) : OwnsAt w e sz (.slice none 0 0) 0 [] := ⟨by simp, .inl ⟨rfl, rfl⟩⟩
theorem OwnsAt.of {w : World} {e : TypeId} {sz : Nat} {v : Value} {n : Nat} {xs : List Value} (h : w.ownsRow 0 e sz v n xs) : OwnsAt w e sz v n xs := by
  obtain ⟨h1, h2⟩ := h
  refine ⟨h1, h2.imp (fun h => h) ?_⟩
  rintro ⟨g, cap, cur, hv, _, hg, hn, hm, hs, ht⟩
  exact ⟨g, 0, cap, cur, hv, hg, hn, hm, by omega, by rw [List.drop_zero]; exact ht⟩
theorem OwnsAt.lt {w : World} {e : TypeId} {sz : Nat} {v : Value} {n : Nat} {xs : List Value} (h : OwnsAt w e sz v n xs) {g : Nat} (hg : v.ownBlock = some g) : g < w.heap.size := by
  rcases h.2 with ⟨rfl, _⟩ | ⟨g', o, cap, cur, rfl, hc, _⟩
  · simp [Value.ownBlock] at hg
  · simp [Value.ownBlock] at hg; subst hg; exact (Array.getElem?_eq_some_iff.1 hc).1
/-! ### leaves, values, objects -/
/-- Block numbers of a value that stands for an object. -/
def blkOf : Value → Option Nat
  | .slice (some a) _ _ => some a.block
  | .pointer (some a) => some a.block
  | .map (some g) => some g
  | _ => none
section
variable (w : World) (Ok : Nat → Prop) (β : List Value)
def RelPtr (id off : Nat) (v : Value) : Prop := ∃ g, β[id]? = some (.pointer (some ⟨g, 0, none⟩)) ∧ v = .pointer (some ⟨g, off, none⟩)
def RelRp (k : K) (x : k.ty) (off : Nat) (v : Value) : Prop :=
  ∃ g o cur e fr, v = .pointer (some ⟨g, o + off, none⟩) ∧ Ok g ∧ w.heap[g]? = some (.cells cur e fr) ∧ o + k.sz ≤ cur.size ∧ RdC w Ok k x ((cur.toList.drop o).take k.sz)
def RelCap : Cap → Value → Prop
  | .id n, v => RelPtr β n 0 v
  | .imm k x, v => RelRp w Ok k x 0 v
def RelL : Lf → Value → Prop
  | .undef, v => v.oneCell' = true
  | .skip, v => v = undef
  | .int k x, v => v = .int k x
  | .bool b, v => v = .bool b
  | .str s, v => v = .string s
  | .sl e k l, v => RdS (RdC w Ok k) w Ok e k.sz l v
  | .nils, v => v = .slice none 0 0
  | .own id, v => β[id]? = some v ∧ ∃ a n c, v = .slice a n c
  | .ptr id off, v => RelPtr β id off v
  | .ept id i sz off, v => ∃ g o n c, β[id]? = some (.slice (some ⟨g, o, none⟩) n c) ∧ 0 ≤ i ∧ i < (n : Int) ∧ v = .pointer (some ⟨g, o + i.toNat * sz + off, none⟩)
  | .rp k x off, v => RelRp w Ok k x off v
  | .nilp, v => v = .pointer none
  | .clo f caps, v => ∃ vs : Array Value, v = .func (.func f) #[] vs ∧ All2 (RelCap w Ok β) caps vs.toList
  | .mp id, v => β[id]? = some v ∧ ∃ g, v = .map (some g)
  | .yld l, v => v = .func (.yield l) #[] #[]
def RelV1 : V1 → Value → Prop
  | .one .undef, _ => True
  | .one l, v => RelL w Ok β l v
  | .agg ls, v => ∃ vs : Array Value, v = .agg vs ∧ All2 (RelL w Ok β) ls vs.toList
def RelV : V → Value → Prop
  | .v x, v => RelV1 w Ok β x v
  | .tup xs, v => ∃ vs : Array Value, v = .tuple vs ∧ All2 (RelV1 w Ok β) xs vs.toList
def RelO : Ob → Value → Prop
  | .box t cs, v => ∃ g cur, v = .pointer (some ⟨g, 0, none⟩) ∧ w.heap[g]? = some (.cells cur t (0, 0)) ∧ All2 (RelL w Ok β) cs cur.toList
  | .row e k l, v => ∃ xs, OwnsAt w e k.sz v l.length xs ∧ RdRow (RdC w Ok k) k.sz l xs
  | .dead, v => blkOf v = none
  | .iter s pos, v => ∃ g, v = .pointer (some ⟨g, 0, none⟩) ∧ w.heap[g]? = some (.stringIter s pos)
  | .map l, v => ∃ g es clock, v = .map (some g) ∧ w.heap[g]? = some (.map es clock) ∧ es.toList.map (fun e : MapEntry => (e.key, e.val)) = l.map fun p => (Value.string p.1, Value.bool p.2)
  | .frame u cs, v => v = undef ∧ All2 (RelV w Ok β) cs u
  | .raw g o, v => v = .pointer (some ⟨g, 0, none⟩) ∧ w.heap[g]? = some o
/-- The heap. -/
structure RelH (heap : List Ob) : Prop where
  objs : All2 (RelO w Ok β) heap β
  dist : ∀ (i j : Nat) v u g, β[i]? = some v → β[j]? = some u → blkOf v = some g → blkOf u = some g → i = j
  lt : ∀ v g, v ∈ β → blkOf v = some g → g < w.heap.size
  okLt : ∀ g, Ok g → g < w.heap.size
  okNot : ∀ v g, v ∈ β → blkOf v = some g → ¬ Ok g
end
section
variable {w w' : World} {Ok Ok' : Nat → Prop} {β β' : List Value}
theorem RelL.def1 {l : Lf} {v : Value} (h : RelL w Ok β l v) (hs : l ≠ .skip) : v.oneCell' = true := by
  cases l with
  | skip => exact absurd rfl hs
  | undef => exact h
  | sl e k l =>
    rcases h with ⟨_, a, rfl⟩ | ⟨g, off, cap, cur, t, fr, rfl, _⟩ <;> rfl
  | own id => obtain ⟨_, a, n, c, rfl⟩ := h; rfl
  | ptr id off => obtain ⟨g, _, rfl⟩ := h; rfl
  | ept id i sz off => obtain ⟨g, o, n, c, _, _, _, rfl⟩ := h; rfl
  | rp k x off => obtain ⟨g, o, cur, e, fr, rfl, _⟩ := h; rfl
  | clo f caps => obtain ⟨vs, rfl, _⟩ := h; rfl
  | mp id => obtain ⟨_, g, rfl⟩ := h; rfl
  | _ => rw [show v = _ from h]; rfl
theorem RelV1.of {l : Lf} {v : Value} (h : RelL w Ok β l v) : RelV1 w Ok β (.one l) v := by
  cases l <;> first | trivial | exact h
theorem RelV1.to {l : Lf} {v : Value} (h : RelV1 w Ok β (.one l) v) (hl : l ≠ .undef) : RelL w Ok β l v := by
  cases l <;> first | exact absurd rfl hl | exact h
/-- The world turns and the names of objects change: what a leaf says goes over. -/
theorem RelRp.mono (hs : Stay w w' Ok Ok') {k : K} {x : k.ty} {off : Nat} {v : Value} (h : RelRp w Ok k x off v) : RelRp w' Ok' k x off v := by
  obtain ⟨g, o, cur, e, fr, hv, ho, hg, hc, hr⟩ := h
  exact ⟨g, o, cur, e, fr, hv, hs.ok g ho, hs.blk g _ ho hg, hc, hr.mono hs⟩
theorem RelCap.mono (hs : Stay w w' Ok Ok') (hb : ∀ (i : Nat) v, β[i]? = some v → β'[i]? = some v) {c : Cap} {v : Value} (h : RelCap w Ok β c v) : RelCap w' Ok' β' c v := by
  cases c with
  | id n => obtain ⟨g, h1, h2⟩ := h; exact ⟨g, hb _ _ h1, h2⟩
  | imm k x => exact RelRp.mono hs h
theorem RelL.mono (hs : Stay w w' Ok Ok') (hb : ∀ (i : Nat) v, β[i]? = some v → β'[i]? = some v) {l : Lf} {v : Value} (h : RelL w Ok β l v) : RelL w' Ok' β' l v := by
  cases l with
  | sl e k l => exact RdS.mono (e := e) hs (fun _ _ => RdC.mono hs) h
  | own id => exact ⟨hb _ _ h.1, h.2⟩
  | ptr id off => obtain ⟨g, h1, h2⟩ := h; exact ⟨g, hb _ _ h1, h2⟩
  | ept id i sz off => obtain ⟨g, o, n, c, h1, h2⟩ := h; exact ⟨g, o, n, c, hb _ _ h1, h2⟩
  | rp k x off => exact RelRp.mono hs h
  | clo f caps => obtain ⟨vs, h1, h2⟩ := h; exact ⟨vs, h1, h2.mono fun _ _ => RelCap.mono hs hb⟩
  | mp id => exact ⟨hb _ _ h.1, h.2⟩
  | _ => exact h
theorem RelV1.mono (hs : Stay w w' Ok Ok') (hb : ∀ (i : Nat) v, β[i]? = some v → β'[i]? = some v) {l : V1} {v : Value} (h : RelV1 w Ok β l v) : RelV1 w' Ok' β' l v := by
  cases l with
  | one l =>
    by_cases hl : l = .undef
    · subst hl; trivial
    · exact .of (RelL.mono hs hb (h.to hl))
  | agg ls => obtain ⟨vs, h1, h2⟩ := h; exact ⟨vs, h1, h2.mono fun _ _ => RelL.mono hs hb⟩
theorem RelV.mono (hs : Stay w w' Ok Ok') (hb : ∀ (i : Nat) v, β[i]? = some v → β'[i]? = some v) {l : V} {v : Value} (h : RelV w Ok β l v) : RelV w' Ok' β' l v := by
  cases l with
  | v x => exact RelV1.mono hs hb h
  | tup xs => obtain ⟨vs, h1, h2⟩ := h; exact ⟨vs, h1, h2.mono fun _ _ => RelV1.mono hs hb⟩
theorem RelO.mono (hs : Stay w w' Ok Ok') (hb : ∀ (i : Nat) v, β[i]? = some v → β'[i]? = some v) {o : Ob} {v : Value} (hk : ∀ g, blkOf v = some g → w'.heap[g]? = w.heap[g]?)
    (h : RelO w Ok β o v) : RelO w' Ok' β' o v := by
  cases o with
  | box t cs =>
    obtain ⟨g, cur, hv, hg, hc⟩ := h
    exact ⟨g, cur, hv, by rw [hk g (by simp [hv, blkOf])]; exact hg, hc.mono fun _ _ => RelL.mono hs hb⟩
  | row e k l =>
    obtain ⟨xs, ho, hr⟩ := h
    refine ⟨xs, ⟨ho.1, ?_⟩, hr.mono fun _ _ => RdC.mono hs⟩
    rcases ho.2 with h | ⟨g, o, cap, cur, hv, hg, r⟩
    · exact .inl h
    · exact .inr ⟨g, o, cap, cur, hv, by rw [hk g (by simp [hv, blkOf])]; exact hg, r⟩
  | dead => exact h
  | iter s pos => obtain ⟨g, hv, hg⟩ := h; exact ⟨g, hv, by rw [hk g (by simp [hv, blkOf])]; exact hg⟩
  | map l => obtain ⟨g, es, ck, hv, hg, hl⟩ := h; exact ⟨g, es, ck, hv, by rw [hk g (by simp [hv, blkOf])]; exact hg, hl⟩
  | frame u cs => exact ⟨h.1, h.2.mono fun _ _ => RelV.mono hs hb⟩
  | raw g o => obtain ⟨hv, hg⟩ := h; exact ⟨hv, by rw [hk g (by simp [hv, blkOf])]; exact hg⟩
/-- What a row says of its value. -/
theorem RelO.row_val {e : TypeId} {k : K} {l : List k.ty} {v : Value} (h : RelO w Ok β (.row e k l) v) : ∃ a c, v = .slice a l.length c := by
  obtain ⟨xs, ho, _⟩ := h
  rcases ho.2 with ⟨hv, hn⟩ | ⟨g, o, cap, cur, hv, _⟩
  · exact ⟨none, 0, by rw [hv, hn]⟩
  · exact ⟨_, _, hv⟩
end
end Go.AM
