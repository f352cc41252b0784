/- Functions of the program: the slots' bases. Conditions: none. -/
import Derived.Test.YtlfelhdcokadbaaD1
set_option linter.all false
namespace Go.AM
open Go.Proofs
-- f16 "busbar/pathmodel.SlotBases" ['24'] -> ['40']
def A16 : Ann := [(0, [3, 12, 13, 14], [3], [2])]
def E16 : Env := [(31, sp31)]
def I16 (p0 : (k23 : K).ty) : List V1 := [nfK k23 p0]
noncomputable def L16_0 : Code := Code.a (Code.a (Code.b (Code.a (Code.b (Code.b (Func.code Try.f16))))))
def S16_0 (l12 : List (K.ty k45)) (x13 : Int) (x14 : Int) (w0 : List (K.ty ((3 : TypeId), K.int IntKind.i64).snd)) : St := sp (31 : Nat) [((3 : Nat), V.v (V1.one (Lf.own (nat_lit 0)))), ((12 : Nat), V.v (V1.one (Lf.sl (46 : TypeId) k45 l12))), ((13 : Nat), V.v (V1.one (Lf.int IntKind.i64 x13))), ((14 : Nat), V.v (V1.one (Lf.int IntKind.i64 x14)))] [Ob.row (3 : TypeId) (K.int IntKind.i64) w0]
def X16_0_0 (w0 : List (K.ty (K.int IntKind.i64))) : St := sp (31 : Nat) [((3 : Nat), V.v (V1.one (Lf.own (nat_lit 0))))] [Ob.row (3 : TypeId) (K.int IntKind.i64) w0]
def t16_0 (again : List (K.ty k45) → Int → Int → List (K.ty ((3 : TypeId), K.int IntKind.i64).snd) → Prop) (R0 : List (K.ty (K.int IntKind.i64)) → Prop) (l12 : List (K.ty k45)) (x13 : Int) (x14 : Int) (w0 : List (K.ty ((3 : TypeId), K.int IntKind.i64).snd)) : Prop :=
  brP (decide (x14 < x13)) (bound x14 (List.length l12) ∧ bound x14 (List.length w0) ∧ (List.length (getE k45 l12 x14).snd.fst ≤ (4611686018427387904 : Nat) ∧ room tt (3 : TypeId) (List.length w0 + List.length (List.set (List.replicate (1 : Nat) (K.dflt (K.int IntKind.i64))) (0 : Nat) (IntKind.wrap IntKind.i64 (getE (K.int IntKind.i64) w0 x14 + (↑(List.countP isEdge (getE k45 l12 x14).snd.fst) : Int))))) ∧ again l12 x13 (IntKind.wrap IntKind.i64 (x14 + (1 : Int))) (w0 ++ List.set (List.replicate (1 : Nat) (K.dflt (K.int IntKind.i64))) (0 : Nat) (IntKind.wrap IntKind.i64 (getE (K.int IntKind.i64) w0 x14 + (↑(List.countP isEdge (getE k45 l12 x14).snd.fst) : Int))))) ∧ (List.length (getE k45 l12 x14).snd.fst ≤ (4611686018427387904 : Nat) ∧ room tt (3 : TypeId) (List.length w0 + List.length (List.set (List.replicate (1 : Nat) (K.dflt (K.int IntKind.i64))) (0 : Nat) (IntKind.wrap IntKind.i64 (getE (K.int IntKind.i64) w0 x14 + (↑(List.countP isEdge (getE k45 l12 x14).snd.fst) : Int))))) ∧ again l12 x13 (IntKind.wrap IntKind.i64 (x14 + (1 : Int))) (w0 ++ List.set (List.replicate (1 : Nat) (K.dflt (K.int IntKind.i64))) (0 : Nat) (IntKind.wrap IntKind.i64 (getE (K.int IntKind.i64) w0 x14 + (↑(List.countP isEdge (getE k45 l12 x14).snd.fst) : Int))))) ∧ List.length (getE k45 l12 x14).snd.fst ≤ (4611686018427387904 : Nat) ∧ room tt (3 : TypeId) (List.length w0 + List.length (List.set (List.replicate (1 : Nat) (K.dflt (K.int IntKind.i64))) (0 : Nat) (IntKind.wrap IntKind.i64 (getE (K.int IntKind.i64) w0 x14 + (↑(List.countP isEdge (getE k45 l12 x14).snd.fst) : Int))))) ∧ again l12 x13 (IntKind.wrap IntKind.i64 (x14 + (1 : Int))) (w0 ++ List.set (List.replicate (1 : Nat) (K.dflt (K.int IntKind.i64))) (0 : Nat) (IntKind.wrap IntKind.i64 (getE (K.int IntKind.i64) w0 x14 + (↑(List.countP isEdge (getE k45 l12 x14).snd.fst) : Int))))) (R0 w0)
theorem t16_0_mono {again : List (K.ty k45) → Int → Int → List (K.ty ((3 : TypeId), K.int IntKind.i64).snd) → Prop} {R0 : List (K.ty (K.int IntKind.i64)) → Prop} {again' : List (K.ty k45) → Int → Int → List (K.ty ((3 : TypeId), K.int IntKind.i64).snd) → Prop} {R0' : List (K.ty (K.int IntKind.i64)) → Prop} (ha : ∀ l12 x13 x14 w0, again l12 x13 x14 w0 → again' l12 x13 x14 w0) (hr0 : ∀ w0, R0 w0 → R0' w0) (l12 : List (K.ty k45)) (x13 : Int) (x14 : Int) (w0 : List (K.ty ((3 : TypeId), K.int IntKind.i64).snd)) :
    t16_0 again R0 l12 x13 x14 w0 → t16_0 again' R0' l12 x13 x14 w0 :=
  brM (andM (id) (andM (id) (andM (andM (id) (andM (id) (ha _ _ _ _))) (andM (andM (id) (andM (id) (ha _ _ _ _))) (andM (id) (andM (id) (ha _ _ _ _))))))) (hr0 _)
theorem t16_0_eq (n : Nat) (Q : Ex → St → Prop) (l12 : List (K.ty k45)) (x13 : Int) (x14 : Int) (w0 : List (K.ty ((3 : TypeId), K.int IntKind.i64).snd)) :
    t16_0 (fun l12 x13 x14 w0 => loopP (awp tt E16 A16 L16_0 0) ([(3 : Nat), (12 : Nat), (13 : Nat), (14 : Nat)], [(3 : Nat)], [(2 : Nat)]) n (S16_0 l12 x13 x14 w0) Q) (fun w0 => Q (Ex.exit (nat_lit 0)) (X16_0_0 w0)) l12 x13 x14 w0 = (loopP (awp tt E16 A16 L16_0 0) ([(3 : Nat), (12 : Nat), (13 : Nat), (14 : Nat)], [(3 : Nat)], [(2 : Nat)]) (n + 1) (S16_0 l12 x13 x14 w0) Q) := by kernel_rfl
def G16_0 (R0 : List (K.ty (K.int IntKind.i64)) → Prop) : Nat → List (K.ty k45) → Int → Int → List (K.ty ((3 : TypeId), K.int IntKind.i64).snd) → Prop
  | 0, _, _, _, _ => False
  | n + 1, l12, x13, x14, w0 => t16_0 (G16_0 R0 n) R0 l12 x13 x14 w0
theorem T16_0 {R0 : List (K.ty (K.int IntKind.i64)) → Prop} (Q : Ex → St → Prop) (hr0 : ∀ w0, R0 w0 → Of (Q (Ex.exit (nat_lit 0)) (X16_0_0 w0))) : ∀ (n : Nat) (l12 : List (K.ty k45)) (x13 : Int) (x14 : Int) (w0 : List (K.ty ((3 : TypeId), K.int IntKind.i64).snd)), G16_0 R0 n l12 x13 x14 w0 → Of (loopP (awp tt E16 A16 L16_0 0) ([(3 : Nat), (12 : Nat), (13 : Nat), (14 : Nat)], [(3 : Nat)], [(2 : Nat)]) n (S16_0 l12 x13 x14 w0) Q) := by
  intro n
  induction n with
  | zero => intro l12 x13 x14 w0 h; exact h.elim
  | succ n ih =>
    intro l12 x13 x14 w0 h
    exact kcO (t16_0_eq n Q l12 x13 x14 w0) (t16_0_mono (fun _ _ _ _ h => (ih _ _ _ _ h).out) (fun _ h => (hr0 _ h).out) l12 x13 x14 w0 h)
def t16 (Q : List V1 → List Ob → Prop) (lp0 : K.ty k23 → Prop) (p0 : K.ty k23) : Prop :=
  ((0 : Int) ≤ (1 : Int) ∧ (1 : Int) ≤ IntKind.wrap IntKind.i64 ((↑(List.length p0.snd.snd.snd) : Int) + (1 : Int)) ∧ IntKind.wrap IntKind.i64 ((↑(List.length p0.snd.snd.snd) : Int) + (1 : Int)) ≤ (17592186044416 : Int)) ∧ room tt (3 : TypeId) (Int.toNat (IntKind.wrap IntKind.i64 ((↑(List.length p0.snd.snd.snd) : Int) + (1 : Int)))) ∧ lp0 p0
theorem t16_mono {Q : List V1 → List Ob → Prop} {Q' : List V1 → List Ob → Prop} {lp0 : K.ty k23 → Prop} {lp0' : K.ty k23 → Prop} (hq : ∀ r h, Q r h → Q' r h) (hlp0 : ∀ p0, lp0 p0 → lp0' p0) (p0 : K.ty k23) :
    t16 Q lp0 p0 → t16 Q' lp0' p0 :=
  andM (andM (id) (andM (id) (id))) (andM (id) (hlp0 _))
theorem t16_eq (Q : List V1 → List Ob → Prop) (p0 : K.ty k23) :
    t16 Q (fun p0 => ∃ m, loopP (awp tt E16 A16 L16_0 0) ([(3 : Nat), (12 : Nat), (13 : Nat), (14 : Nat)], [(3 : Nat)], [(2 : Nat)]) m (S16_0 (p0.snd.snd.snd) ((↑(List.length p0.snd.snd.snd) : Int)) ((0 : Int)) (List.replicate (Int.toNat (1 : Int)) (K.dflt (K.int IntKind.i64)))) (blkC (0 : Nat) (seqC (awp tt E16 A16 (Code.b (Code.b (Code.b (Func.code Try.f16)))) (0 : Nat)) (topC tt Try.f16 0 Q)))) p0 = (afun tt E16 A16 Try.f16 (I16 p0) [] Q) := by kernel_rfl
def t16c0x0 (Q : List V1 → List Ob → Prop) (p0 : K.ty k23) (w0e1 : List (K.ty (K.int IntKind.i64))) : Prop :=
  Q [V1.one (Lf.own (0 : Nat))] [Ob.row (3 : TypeId) (K.int IntKind.i64) w0e1]
theorem t16c0x0_mono {Q : List V1 → List Ob → Prop} {Q' : List V1 → List Ob → Prop} (hq : ∀ r h, Q r h → Q' r h) (p0 : K.ty k23) (w0e1 : List (K.ty (K.int IntKind.i64))) :
    t16c0x0 Q p0 w0e1 → t16c0x0 Q' p0 w0e1 :=
  hq _ _
theorem t16c0x0_eq (Q : List V1 → List Ob → Prop) (p0 : K.ty k23) (w0e1 : List (K.ty (K.int IntKind.i64))) :
    t16c0x0 Q p0 w0e1 = ((blkC (0 : Nat) (seqC (awp tt E16 A16 (Code.b (Code.b (Code.b (Func.code Try.f16)))) (0 : Nat)) (topC tt Try.f16 0 Q))) (Ex.exit (nat_lit 0)) (X16_0_0 w0e1)) := by kernel_rfl
def H16 (Q : List V1 → List Ob → Prop) (p0 : K.ty k23) : Prop := t16 Q (fun p0 => ∃ m, G16_0 (fun w0e1 => t16c0x0 Q p0 w0e1) m (p0.snd.snd.snd) ((↑(List.length p0.snd.snd.snd) : Int)) ((0 : Int)) (List.replicate (Int.toNat (1 : Int)) (K.dflt (K.int IntKind.i64)))) p0
theorem ok16 (Q : List V1 → List Ob → Prop) (p0 : K.ty k23) (h : H16 Q p0) : Of (afun tt E16 A16 Try.f16 (I16 p0) [] Q) :=
  kcO (t16_eq Q p0) (t16_mono (fun _ _ h => h) (fun p0 ⟨m, h⟩ => ⟨m, (T16_0 _ (fun w0e1 h => kcO (t16c0x0_eq _ _ _) (t16c0x0_mono (fun _ _ h => h) _ _ h)) m _ _ _ _ h).out⟩) p0 h)
theorem env16 : EnvOk Try.prog E16 := .cons spec31 (by kernel_rfl) <| .nil
theorem basesFrom_len : ∀ (l : List Rung) (b : Int), (basesFrom b l).length = l.length + 1
  | [], _ => rfl
  | r :: l, b => by simp only [basesFrom, List.length_cons, basesFrom_len l]
/-- An int of a list. -/
def bAt (l : List Int) (i : Int) : Int := getE ki l i
theorem basesFrom_step : ∀ (l : List Rung) (b : Int) (i : Nat), i < l.length → bAt (basesFrom b l) (i + 1 : Nat) = bAt (basesFrom b l) i + edges (getE k45 l i)
  | [], _, i, h => by simp at h
  | r :: l, b, 0, _ => by
    cases l <;> simp [basesFrom, bAt, getE, List.getD]
  | r :: l, b, i + 1, h => by
    have := basesFrom_step l (b + edges r) i (by simpa using h)
    simp only [bAt, getE, Int.toNat_natCast, basesFrom, List.getD_cons_succ] at this ⊢
    exact this
theorem basesFrom_zero (l : List Rung) (b : Int) : bAt (basesFrom b l) (0 : Nat) = b := by cases l <;> rfl
theorem edges_bound {r : Rung} (h : r.contacts.length ≤ 1000000) : 0 ≤ edges r ∧ edges r ≤ 1000000 := by
  have := List.countP_le_length (p := isEdge) (l := r.contacts)
  unfold edges
  omega
theorem getE_mem45 {l : List Rung} {i : Nat} (h : i < l.length) : getE k45 l i ∈ l := by
  have : getE k45 l i = l[i] := by simp [getE, List.getD, h]
  rw [this]; exact List.getElem_mem h
theorem bases_bound {l : List Rung} (hl : l.length ≤ 1000) (hc : ∀ r ∈ l, (Rung.contacts r).length ≤ 1000000) : ∀ i : Nat, i ≤ l.length → 0 ≤ bAt (basesFrom 0 l) i ∧ bAt (basesFrom 0 l) i ≤ i * 1000000 := by
  intro i
  induction i with
  | zero => intro _; rw [basesFrom_zero]; omega
  | succ i ih =>
    intro hi
    rw [basesFrom_step l 0 i (by omega)]
    have h1 := ih (by omega)
    have h2 := edges_bound (hc _ (getE_mem45 (show i < l.length by omega)))
    omega
theorem take_getE {l : List Int} {i : Nat} (h : i < l.length) : l.take (i + 1) = l.take i ++ [bAt l i] := by
  rw [List.take_succ_eq_append_getElem h]; simp [bAt, getE, List.getD, h]
theorem room3 {n : Nat} (h : n ≤ 1000000) : room tt 3 n := by
  show n * 8 ≤ 140737488355328; omega
theorem loop16 (rs : List Rung) (hl : rs.length ≤ 1000) (hc : ∀ r ∈ rs, (Rung.contacts r).length ≤ 1000000) (R0 : List Int → Prop) (h0 : R0 (basesFrom 0 rs)) : ∀ n (i : Nat), rs.length - i < n → i ≤ rs.length →
    G16_0 R0 n rs rs.length i ((basesFrom 0 rs).take (i + 1)) := by
  intro n
  induction n with
  | zero => intro i h; omega
  | succ n ih =>
    intro i hn hi
    have hB := basesFrom_len rs 0
    refine brP_intro (fun c => ?_) (fun c => ?_)
    · have c : i < rs.length := by simpa using c
      have hlt : ((basesFrom 0 rs).take (i + 1)).length = i + 1 := by rw [List.length_take]; omega
      have hg : getE (.int .i64) ((basesFrom 0 rs).take (i + 1)) i = bAt (basesFrom 0 rs) i := by
        simp only [bAt, getE, Int.toNat_natCast, List.getD]
        rw [List.getElem?_take, if_pos (by omega)]
      have hb := bases_bound hl hc i (by omega)
      have he := edges_bound (hc _ (getE_mem45 c))
      have hs := basesFrom_step rs 0 i c
      have hw : IntKind.i64.wrap (bAt (basesFrom 0 rs) i + edges (getE k45 rs i)) = bAt (basesFrom 0 rs) (i + 1 : Nat) := by
        rw [hs]
        exact wrap_in (by omega) (by omega)
      have key : List.length (getE k45 rs i).snd.fst ≤ (4611686018427387904 : Nat) ∧ room tt (3 : TypeId) (List.length ((basesFrom 0 rs).take (i + 1)) + List.length (List.set (List.replicate (1 : Nat) (K.dflt (K.int IntKind.i64))) (0 : Nat) (IntKind.wrap IntKind.i64 (getE (K.int IntKind.i64) ((basesFrom 0 rs).take (i + 1)) i + (↑(List.countP isEdge (getE k45 rs i).snd.fst) : Int))))) ∧
          G16_0 R0 n rs rs.length (IntKind.wrap IntKind.i64 (i + (1 : Int))) ((basesFrom 0 rs).take (i + 1) ++ List.set (List.replicate (1 : Nat) (K.dflt (K.int IntKind.i64))) (0 : Nat) (IntKind.wrap IntKind.i64 (getE (K.int IntKind.i64) ((basesFrom 0 rs).take (i + 1)) i + (↑(List.countP isEdge (getE k45 rs i).snd.fst) : Int)))) := by
        refine ⟨Nat.le_trans (hc _ (getE_mem45 c)) (by omega), ?_, ?_⟩
        · rw [hlt, List.length_set, List.length_replicate]; exact room3 (by omega)
        · have e1 : (List.set (List.replicate (1 : Nat) (K.dflt (K.int IntKind.i64))) (0 : Nat) (IntKind.wrap IntKind.i64 (getE (K.int IntKind.i64) ((basesFrom 0 rs).take (i + 1)) i + (↑(List.countP isEdge (getE k45 rs i).snd.fst) : Int)))) = [bAt (basesFrom 0 rs) (i + 1 : Nat)] := by
            show [_] = _
            rw [← hw, ← hg]
            rfl
          rw [e1, ← take_getE (by omega), wrap_in (by omega) (by omega)]
          exact ih (i + 1) (by omega) (by omega)
      exact ⟨⟨by omega, by omega⟩, ⟨by omega, by rw [hlt]; omega⟩, key, key, key⟩
    · have c : ¬ i < rs.length := by simpa using c
      rw [List.take_of_length_le (by omega)]
      exact h0
theorem spec16 : SpecOk Try.prog 16 sp16 := S1.okS tt_ok mixed [ksi] env16 Try.func16 fun (l : Lad) Q h => ok16 _ l <| by
  obtain ⟨⟨hl, hc⟩, h⟩ := h
  have hl' : (l.snd.snd.snd).length ≤ 1000 := hl
  have hw : IntKind.i64.wrap ((l.snd.snd.snd.length : Int) + 1) = (l.snd.snd.snd.length : Int) + 1 := wrap_in (by omega) (by omega)
  unfold H16 t16
  rw [hw]
  refine ⟨⟨by omega, by omega, by omega⟩, room3 (by omega), l.snd.snd.snd.length + 1, ?_⟩
  have := loop16 (Lad.rungs l) hl hc (fun w => SQ [ksi] Q [.one (.own 0)] [.row 3 (.int .i64) w]) h ((Lad.rungs l).length + 1) 0 (by omega) (by omega)
  have e : (basesFrom 0 (Lad.rungs l)).take (0 + 1) = [0] := by
    cases (Lad.rungs l) <;> rfl
  rw [e] at this
  exact this
end Go.AM
