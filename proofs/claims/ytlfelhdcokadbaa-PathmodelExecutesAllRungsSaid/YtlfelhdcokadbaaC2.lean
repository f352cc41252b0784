/- The scan of a ladder: the iterator over its rungs. Conditions: none. -/
import Derived.Test.YtlfelhdcokadbaaC1
set_option linter.all false
namespace Go.AM
open Go.RowKit Go.Proofs
noncomputable def o41 : Oper := (ops41.toList[3]?).getD default
theorem lp41_eq : lp41 = .seq x41 (.block 1 b41) := by kernel_rfl
theorem b41_eq : b41 = .seq r41 (.seq (.seq (.region 3 ops41 false) (Code.b y41)) t41) := by kernel_rfl
theorem c41_eq : c41 = .seq (Code.a c41) (.block 0 (.loop lp41)) := by kernel_rfl
theorem z11_eq : z11 = .seq (.seq (Code.a (Code.a z11)) (.block 0 (.rangeFunc (.tmp 62) #[63, 64] as11 bd11))) post11 := by kernel_rfl
theorem c11_eq : c11 = seqL pre11 z11 := by kernel_rfl
theorem ops41_eq : ops41.toList = ops41.toList.take 3 ++ (o41 :: ops41.toList.drop 4) := by kernel_rfl
theorem o41_guard : o41.guard = none := by kernel_rfl
theorem o41_dst : o41.dst = some 19 := by kernel_rfl
noncomputable def call41 : Call := match o41.op with | .call c => c | _ => default
theorem o41_op : o41.op = .call call41 := by kernel_rfl
theorem call41_callee : call41.callee = .value (.tmp 16) := by kernel_rfl
theorem call41_args : call41.args = #[.tmp 17, .tmp 18] := by kernel_rfl
section
variable {w w0 : World} {B Ok0 Ok : Nat → Prop} {β : List Value} {st : St} {tm : List Value}
theorem dropK_sound {keep L : List Nat} {R : St → Prop} (r : Rel B Ok0 w0 w Ok β st tm) (h : dropK keep L st R) : ∃ s' β', R s' ∧ Rel B Ok0 w0 w Ok β' s' tm := by
  unfold dropK at h
  obtain ⟨hn, h⟩ := ifK_iff h
  obtain ⟨h', hr, h⟩ := someK_iff h
  rw [stK_eq] at h
  have r1 : Rel B Ok0 w0 w Ok β ⟨keepFrom keep 0 st.slots, st.heap⟩ tm := r.withSlots (keep_rel r.s.s)
  obtain ⟨β', r2⟩ := r1.ren hn hr
  exact ⟨_, β', h, r2⟩
end
theorem tailR41_self (u : List Value) (g l' : Nat) (oD oL : Obj) (l : Lad) (inp : List Bool) (st0 : Sta) (e : Int) (bases : List Int) (s : Sta) (on : Bool) (did : List Bool) (r : Rung) (i : Int) :
    TailR41 (fun x => x = sp 34 [(0, .v (.one (.yld l')))] (hpG l inp st0 [.nils, .nils, .nils] [.nils] [.int .i64 e] bases s on did ++ mo41 u g l' oD oL l)) u g l' oD oL l inp st0 e bases s on did r i ∧ True := by
  rw [← tailR41_eq]
  exact ⟨rfl, trivial⟩
theorem env41 : EnvOk Try.prog E41 := .cons spec42 (by kernel_rfl) .nil
theorem env11 : EnvOk Try.prog E11 := .cons spec16 (by kernel_rfl) <| .cons spec23 (by kernel_rfl) <| .cons spec24 (by kernel_rfl) <| .cons spec25s (by kernel_rfl) <| .cons spec27 (by kernel_rfl) <| .nil
/-! ### what a valid ladder promises -/
theorem chk1_none {s : k59.ty} {l : List Rung} : ∀ {k i : Nat}, chk1 s l i k = none → ∀ j, i ≤ j → j < i + k → rungE s (l.take j) (getE k45 l j) = 0
  | 0, i, _, j, h1, h2 => by omega
  | k + 1, i, h, j, h1, h2 => by
    simp only [chk1] at h
    cases hc : (rungE s (l.take i) (getE k45 l i) != 0) with
    | true => rw [hc] at h; cases h
    | false =>
      rw [hc] at h
      by_cases e : j = i
      · subst e; simpa using hc
      · exact chk1_none h j (by omega) (by omega)
theorem chk1_some {s : k59.ty} {l : List Rung} : ∀ {k i : Nat} {x : Int × Int}, chk1 s l i k = some x → x.2 ≠ 0
  | 0, i, _, h => by cases h
  | k + 1, i, x, h => by
    simp only [chk1] at h
    cases hc : (rungE s (l.take i) (getE k45 l i) != 0) with
    | true => rw [hc] at h; cases h; simpa using hc
    | false => rw [hc] at h; exact chk1_some h
theorem chk2_none {l : List Rung} : ∀ {k i : Nat}, chk2 l i k = none → ∀ j, i ≤ j → j < i + k → Rung.jump (getE k45 l j) ≠ str0 → found l j = true
  | 0, i, _, j, h1, h2, _ => by omega
  | k + 1, i, h, j, h1, h2, hj => by
    simp only [chk2] at h
    cases hc : (!decide (Rung.jump (getE k45 l i) = str0) && !found l i) with
    | true => rw [hc] at h; cases h
    | false =>
      rw [hc] at h
      by_cases e : j = i
      · subst e; simp [hj] at hc; exact hc
      · exact chk2_none h j (by omega) (by omega) hj
theorem chk2_some {l : List Rung} : ∀ {k i : Nat} {x : Int × Int}, chk2 l i k = some x → x.2 ≠ 0
  | 0, i, _, h => by cases h
  | k + 1, i, x, h => by
    simp only [chk2] at h
    cases hc : (!decide (Rung.jump (getE k45 l i) = str0) && !found l i) with
    | true => rw [hc] at h; cases h; show (15 : Int) ≠ 0; decide
    | false => rw [hc] at h; exact chk2_some h
theorem rungE_small {s : k59.ty} {a : List Rung} {r : Rung} (h : rungE s a r = 0) : r.contacts.length ≤ 256 ∧ r.coils.length ≤ 16 := by
  unfold rungE at h
  cases h1 : (!decide (r.label = str0) && !isName r.label) with
  | true => simp [h1] at h
  | false =>
    cases h2 : (!decide (r.label = str0) && decide (0 ≤ idxP (fun x => decide (Rung.label x = r.label)) a 0)) with
    | true => simp [h1, h2] at h
    | false =>
      simp only [h1, h2, cond_false] at h
      unfold rungE2 at h
      cases h3 : decide (r.contacts.length > 256) with
      | true => simp [h3] at h
      | false =>
        cases h4 : (consE s r.contacts != 0) with
        | true =>
          simp only [h3, h4, cond_true, cond_false] at h
          rw [h] at h4; cases h4
        | false =>
          cases h5 : decide (r.coils.length > 16) with
          | true => simp [h3, h4, h5] at h
          | false =>
            have a3 : ¬ r.contacts.length > 256 := by simpa using h3
            have a5 : ¬ r.coils.length > 16 := by simpa using h5
            omega
structure Valid (l : Lad) : Prop where
  len : l.rungs.length ≤ 64
  rung : ∀ i < l.rungs.length, (Rung.contacts (getE k45 l.rungs i)).length ≤ 256 ∧ (Rung.coils (getE k45 l.rungs i)).length ≤ 16
  jump : ∀ i < l.rungs.length, jumpAt l i ≠ str0 → (i : Int) < behind l i ∧ behind l i < l.rungs.length
theorem valid_of {l : Lad} (h : (checkL l).2 = 0) : Valid l := by
  unfold checkL at h
  cases h1 : (checkSize (sizesOf l) != 0) with
  | true => simp [h1] at h
  | false =>
    cases h2 : decide (l.rungs.length > 64) with
    | true => simp [h1, h2] at h
    | false =>
      simp only [h1, h2, cond_false] at h
      have hl : ¬ l.rungs.length > 64 := by simpa using h2
      cases h3 : chk1 (sizesOf l) l.rungs 0 l.rungs.length with
      | some x => rw [h3] at h; exact absurd h (chk1_some h3)
      | none =>
        rw [h3] at h
        simp only at h
        cases h4 : chk2 l.rungs 0 l.rungs.length with
        | some x => rw [h4] at h; exact absurd h (chk2_some h4)
        | none =>
          refine ⟨by omega, fun i hi => rungE_small (chk1_none h3 i (by omega) (by omega)), fun i hi hj => ?_⟩
          have hf := chk2_none h4 i (by omega) (by omega) hj
          unfold found at hf
          have hf : 0 ≤ idxP (fun r => decide (Rung.label r = jumpAt l i)) (l.rungs.drop (i + 1)) 0 := of_decide_eq_true hf
          have hb := idxP_bounds (fun r => decide (Rung.label r = jumpAt l i)) (l.rungs.drop (i + 1)) 0
          rw [List.length_drop] at hb
          have e : ((i : Int) + 1).toNat = i + 1 := by omega
          unfold behind
          rw [e]
          omega
theorem Valid.wide {l : Lad} (h : Valid l) : l.rungs.length ≤ 1000 ∧ ∀ r ∈ l.rungs, (Rung.contacts r).length ≤ 1000000 := by
  refine ⟨Nat.le_trans h.len (by omega), fun r hr => ?_⟩
  obtain ⟨i, hi, e⟩ := List.getElem_of_mem hr
  have h2 : getE k45 l.rungs i = r := by rw [← e]; simp [getE, List.getD, hi]
  have := (h.rung i hi).1
  rw [h2] at this
  omega
/-! ### one round after the other -/
/-- What the scan comes to: its own state at the loop's end. -/
def endOk (l : Lad) (inp : List Bool) (st0 : Sta) (bases : List Int) (fin : Sta × List Bool × Int) (B Ok0 : Nat → Prop) (w0 : World) (u : List Value) (g l' : Nat) (oD oR : Obj) (tm : List Value) (w : World) : Prop :=
  ∃ (s : Sta) (on : Bool) (did : List Bool) (i : Int) (Ok : Nat → Prop) (β : List Value), fin = (s, did, 0) ∧ Rel B Ok0 w0 w Ok β (st41 u g l' oD oR l inp st0 bases s on did i) tm
def badOk (l : Lad) (inp : List Bool) (st0 : Sta) (bases : List Int) (fin : Sta × List Bool × Int) (B Ok0 : Nat → Prop) (w0 : World) (u : List Value) (g l' : Nat) (oD oDn : Obj) (tm : List Value) (w : World) : Prop :=
  ∃ (e : Int) (s : Sta) (on : Bool) (did : List Bool) (Ok : Nat → Prop) (β : List Value), fin = (zeroS, [], e) ∧ Rel B Ok0 w0 w Ok β (sp 34 [(0, .v (.one (.yld l')))] (hpG l inp st0 [.nils, .nils, .nils] [.nils] [.int .i64 e] bases s on did ++ mo41 u g l' oD oDn l)) tm
theorem coilGo_small (on : Bool) : ∀ (cs : List Coi) (s : Sta), small s → small (coilGo on cs s).1
  | [], _, h => h
  | c :: r, s, h => by
    simp only [coilGo]
    cases decide (c.1 < 0) with
    | true => exact small_zero
    | false =>
      cases decide (c.1 ≥ 4) with
      | true => exact small_zero
      | false =>
        cases (writeS s c.2 (writes c.1 on).1).2 != 0 with
        | true => exact small_zero
        | false =>
          simp only [cond_false]
          refine coilGo_small on r _ ?_
          cases (writes c.1 on).2 with
          | true => exact small_write h _ _
          | false => exact h
theorem scanR_small {s : Sta} (h : small s) (r : Rung) (inp : List Bool) (slot : Int) : small (scanR r inp s slot).1 := by
  unfold scanR
  cases (contactsR r inp s slot).2.2 != 0 with
  | true => exact small_zero
  | false =>
    cases (conductsR r (contactsR r inp s slot).1).2 != 0 with
    | true => exact small_zero
    | false =>
      cases (coilGo (conductsR r (contactsR r inp s slot).1).1 r.coils (contactsR r inp s slot).2.1).2 != 0 with
      | true => exact small_zero
      | false => exact coilGo_small _ _ _ (small_contacts h r inp slot)
section
variable {B Ok0 : Nat → Prop} {w0 : World}
def posOf (a : Act) : Nat := match a.tmps.getD 4 undef with | .int _ x => x.toNat | _ => 0
theorem posOf_rel {w : World} {Ok : Nat → Prop} {β : List Value} {u : List Value} {g l' : Nat} {oD oL : Obj} {l : Lad} {inp : List Bool} {st0 : Sta} {bases : List Int} {s : Sta} {on : Bool} {did : List Bool} {i : Nat} {a : Act}
    (r : Rel B Ok0 w0 w Ok β (st41 u g l' oD oL l inp st0 bases s on did i) a.tmps.toList) : posOf a = i := by
  have hs : (st41 u g l' oD oL l inp st0 bases s on did i).slots[4]? = some (.v (.one (.int .i64 i))) := rfl
  obtain ⟨b, hb, hr⟩ := r.s.s.get hs
  have hbv : b = .int .i64 i := hr
  have hb' : a.tmps[4]? = some b := by simpa using hb
  unfold posOf
  rw [Array.getD_eq_getD_getElem?, hb', hbv]
  simp
set_option maxRecDepth 100000 in
/-- The way out at a fault. -/
theorem iter_bad {n : Nat} (hB : ∀ g, B g → g < w0.heap.size) {u : List Value} {g l' : Nat} {oD oL : Obj} {l : Lad} {inp : List Bool} {st0 : Sta} {e : Int} {bases : List Int} {s : Sta} {on : Bool} {did : List Bool} {r : Rung} {i : Int}
    {a3 : Act} {w : World} {Ok : Nat → Prop} {β : List Value} {R F : Exit → Act → World → Prop} (hd3 : a3.defers = [])
    (r5 : Rel B Ok0 w0 w Ok β (sp 34 (sy41 l' r i) (hpG l inp st0 [.nils, .nils, .nils] [.nils] [.int .i64 e] bases s on did ++ mo41 u g l' oD oL l ++ [.box 46 (leaves k45 r)])) a3.tmps.toList)
    (hR : ∀ a7 w7, (Code.b y41).wpIn Fence.wide n Try.prog F a7 w7 → R .normal a7 w7)
    (hF : ∀ a8 w8, a8.defers = [] → (∃ Ok8 β9, Rel B Ok0 w0 w8 Ok8 β9 (sp 34 [(0, .v (.one (.yld l')))] (hpG l inp st0 [.nils, .nils, .nils] [.nils] [.int .i64 e] bases s on did ++ mo41 u g l' oD oL l)) a8.tmps.toList) → F .ret a8 w8) :
    wpListIn Fence.wide n Try.prog ops41 R (ops41.toList.drop 4) (a3.put o41.dst (.bool false)) w := by
  have r6 := r5.put (a := a3) o41.dst (av := .v (.one (.bool false))) (v := .bool false) rfl
  obtain ⟨hT, -⟩ := tailR41_self u g l' oD oL l inp st0 e bases s on did r i
  unfold TailR41 at hT
  have e0 : putS (sp 34 (sy41 l' r i) (hpG l inp st0 [.nils, .nils, .nils] [.nils] [.int .i64 e] bases s on did ++ mo41 u g l' oD oL l ++ [.box 46 (leaves k45 r)])) o41.dst (.v (.one (.bool false))) =
      sp 34 (sy41 l' r i ++ [(19, .v (.one (.bool false)))]) (hpG l inp st0 [.nils, .nils, .nils] [.nils] [.int .i64 e] bases s on did ++ mo41 u g l' oD oL l ++ [.box 46 (leaves k45 r)]) := by rw [o41_dst]; rfl
  rw [e0] at r6
  have hdp : (a3.put o41.dst (.bool false)).defers = [] := by rw [put_defers]; exact hd3
  rw [show ops41.toList.drop 4 = ops41.toList.drop 4 ++ [] by simp]
  refine opsK_then tt_ok env41 hB (ops41.toList.drop 4) hdp r6 (by assumption) ?_
  rintro a7 w7 ⟨hd7, s7, Ok7, β7, hq, r7⟩
  refine wpListIn_nil (hR _ _ ?_)
  refine wpIn_mono (wpIn_wide.2 (awp_sound tt_ok env41 mixed hB (Code.b y41) 1 hd7 r7 hq)) fun e a8 w8 hq => ?_
  cases e with
  | ret =>
    obtain ⟨hd8, s8, Ok8, β8, hq, r8⟩ := hq
    obtain ⟨s9, β9, rfl, r9⟩ := dropK_sound r8 hq
    exact hF _ _ hd8 ⟨Ok8, β9, r9⟩
  | _ => first | exact hq.elim | (obtain ⟨_, _, _, _, hq, _⟩ := hq; exact hq.elim)
/-- The iterator's loop. -/
theorem iter_loop {n : Nat} {fno : FuncId} (hB : ∀ g, B g → g < w0.heap.size) {l : Lad} (hv : Valid l) {inp : List Bool} {st0 : Sta} {fin : Sta × List Bool × Int} {u : List Value} {g l' D : Nat} {oD : Obj} {oR oDn : Obj}
    (hoR : oR = .loop { state := .ready, pending := none, fn := fno, tmps := u.toArray, params := #[63, 64], assign := as11, body := bd11, defers := D })
    (hoDn : oDn = .loop { state := .done, pending := some .ret, fn := fno, tmps := u.toArray, params := #[63, 64], assign := as11, body := bd11, defers := D })
    {a : Act} {w : World} {Ok : Nat → Prop} {β : List Value} (hd : a.defers = []) {s : Sta} {on : Bool} {did : List Bool} (hs : small s) (hdid : did.length = l.rungs.length) (hfin : scanGo l inp l.rungs.length 0 s did = fin)
    (r : Rel B Ok0 w0 w Ok β (st41 u g l' oD oR l inp st0 (basesFrom 0 l.rungs) s on did 0) a.tmps.toList) :
    (Code.loop lp41).wpIn Fence.wide n Try.prog (fun e a' w' => match e with
      | .exit 0 => a'.defers = [] ∧ endOk l inp st0 (basesFrom 0 l.rungs) fin B Ok0 w0 u g l' oD oR a'.tmps.toList w'
      | .ret => a'.defers = [] ∧ badOk l inp st0 (basesFrom 0 l.rungs) fin B Ok0 w0 u g l' oD oDn a'.tmps.toList w'
      | _ => False) a w := by
  have hlen := hv.len
  refine wpIn_loop (fun a w => a.defers = [] ∧ ∃ (i k : Nat) (s : Sta) (did : List Bool) (on : Bool) (Ok : Nat → Prop) (β : List Value), i ≤ l.rungs.length ∧ l.rungs.length - i ≤ k ∧ small s ∧ did.length = l.rungs.length ∧ scanGo l inp k i s did = fin ∧
    Rel B Ok0 w0 w Ok β (st41 u g l' oD oR l inp st0 (basesFrom 0 l.rungs) s on did i) a.tmps.toList) (fun a _ => l.rungs.length - posOf a) ⟨hd, 0, l.rungs.length, s, did, on, Ok, β, Nat.zero_le _, Nat.le_refl _, hs, hdid, hfin, r⟩ ?_
  rintro a w ⟨hd, i, k, s, did, on, Ok, β, hi, hk, hs, hdid, hfin, r⟩
  have hpos := posOf_rel r
  rw [lp41_eq]
  -- the head
  have hH : Head41 (fun ex s' => match ex with
      | .normal => i < l.rungs.length ∧ s' = sty u g l' oD oR l inp st0 (basesFrom 0 l.rungs) s on did (getE k45 l.rungs i) i
      | .exit n => n = 0 ∧ ¬ i < l.rungs.length ∧ s' = st41 u g l' oD oR l inp st0 (basesFrom 0 l.rungs) s on did i
      | .ret => False) u g l' oD oR l inp st0 (basesFrom 0 l.rungs) s on did i := by
    refine kc (head41_eq _ _ _ _ _ _ _ _ _ _ _ _ _ _) (brP_intro (fun c => ?_) (fun c => ?_))
    · have c : i < l.rungs.length := by simpa using c
      exact ⟨⟨by omega, by omega⟩, c, rfl⟩
    · have c : ¬ i < l.rungs.length := by simpa using c
      exact ⟨rfl, c, rfl⟩
  unfold Head41 at hH
  refine wpIn_seq (wpIn_mono (wpIn_wide.2 (awp_sound tt_ok env41 mixed hB x41 0 hd r hH)) fun e a1 w1 hq => ?_)
  cases e with
  | exit n =>
    obtain ⟨hd1, s1, Ok1, β1, hq, r1⟩ := hq
    obtain ⟨s2, β2, ⟨rfl, hn, rfl⟩, r2⟩ := dropK_sound r1 hq
    refine ⟨hd1, s, on, did, i, Ok1, β2, ?_, r2⟩
    cases k with
    | zero => exact hfin.symm
    | succ k =>
      simp only [scanGo] at hfin
      rw [decide_eq_true (show l.rungs.length ≤ i by omega)] at hfin
      exact hfin.symm
  | ret => obtain ⟨_, _, _, _, hq, _⟩ := hq; exact hq.elim
  | normal =>
    obtain ⟨hd1, s1, Ok1, β1, hq, r1⟩ := hq
    rw [b41_eq]
    refine wpIn_block (wpIn_seq (wpIn_mono (wpIn_wide.2 (awp_sound tt_ok env41 mixed hB r41 1 hd1 r1 hq)) fun e a2 w2 hq => ?_))
    cases e with
    | normal =>
      obtain ⟨hd2, s2, Ok2, β2, hq, r2⟩ := hq
      refine wpIn_seq (wpIn_seq (wpIn_region_list ?_))
      rw [ops41_eq]
      refine opsK_then tt_ok env41 hB (ops41.toList.take 3) hd2 r2 hq ?_
      rintro a3 w3 ⟨hd3, s3, Ok3, β3, hq, r3⟩
      obtain ⟨s4, β4, ⟨hlt, rfl⟩, r4⟩ := dropK_sound r3 hq
      clear hq hH r3 r2 r1
      -- the round
      have hgetI : bound (i : Int) did.length := ⟨by omega, by omega⟩
      have hbl : bound (i : Int) (basesFrom 0 l.rungs).length := ⟨by omega, by rw [basesFrom_len]; omega⟩
      have hcc := hv.rung i hlt
      have hf := r4.frame_get (i := 13) (u := u) (cs := spl 88 0 (sl11 ++ [(62, .v (.one (.clo 41 [.id 11, .id 12])))])) rfl
      have h17 : ∃ v17, a3.tmps.toList[17]? = some v17 ∧ RelV w3 Ok3 β4 (.v (.one (.int .i64 i))) v17 := r4.s.s.get rfl
      have h18 : ∃ v18, a3.tmps.toList[18]? = some v18 ∧ RelV w3 Ok3 β4 (.v (nfK k45 (getE k45 l.rungs i))) v18 := r4.s.s.get rfl
      have h16 : ∃ v16, a3.tmps.toList[16]? = some v16 ∧ RelV w3 Ok3 β4 (.v (.one (.yld l'))) v16 := r4.s.s.get rfl
      obtain ⟨v17, e17, r17⟩ := h17
      obtain ⟨v18, e18, r18⟩ := h18
      obtain ⟨v16, e16, r16⟩ := h16
      have ev : ∀ t v, a3.tmps.toList[t]? = some v → a3.eval (.tmp t) = v := fun t v h => by
        have h' : a3.tmps[t]? = some v := by simpa using h
        show a3.tmps.getD t undef = v
        simp [h']
      have hsA : All2 (RelV w3 Ok3 β4) (spl 88 0 (sl11 ++ [(62, .v (.one (.clo 41 [.id 11, .id 12]))), (63, .v (.one (.int .i64 i))), (64, .v (nfK k45 (getE k45 l.rungs i)))]))
          (((#[63, 64] : Array Tmp).zip #[v17, v18]).foldl (fun tmps (t, a) => tmps.setIfInBounds t a) u.toArray).toList := by
        have e1 : (((#[63, 64] : Array Tmp).zip #[v17, v18]).foldl (fun tmps (t, a) => tmps.setIfInBounds t a) u.toArray).toList = (u.set 63 v17).set 64 v18 := by simp
        rw [e1]
        exact (hf.set 63 r17).set 64 r18
      have hR : Round11 (fun x => x = sty u g l' oD oR l inp st0 (basesFrom 0 l.rungs) (scanR (getE k45 l.rungs i) inp s (getE (.int .i64) (basesFrom 0 l.rungs) i)).1 (scanR (getE k45 l.rungs i) inp s (getE (.int .i64) (basesFrom 0 l.rungs) i)).2.1 (did.set i true) (getE k45 l.rungs i) i ∧
            (scanR (getE k45 l.rungs i) inp s (getE (.int .i64) (basesFrom 0 l.rungs) i)).2.2 = 0)
          (fun x => x = sp 34 (sy41 l' (getE k45 l.rungs i) i) (hpG l inp st0 [.nils, .nils, .nils] [.nils] [.int .i64 (scanR (getE k45 l.rungs i) inp s (getE (.int .i64) (basesFrom 0 l.rungs) i)).2.2] (basesFrom 0 l.rungs) s on (did.set i true) ++ mo41 u g l' oD oDn l ++ [.box 46 (leaves k45 (getE k45 l.rungs i))]) ∧
            (scanR (getE k45 l.rungs i) inp s (getE (.int .i64) (basesFrom 0 l.rungs) i)).2.2 ≠ 0)
          a3.tmps.toList oR (.loop { state := .busy, pending := none, fn := fno, tmps := u.toArray, params := #[63, 64], assign := as11, body := bd11, defers := D }) oDn u g l' oD l inp st0 (basesFrom 0 l.rungs) s on did (getE k45 l.rungs i) i := by
        have hx : rx11 (fun x => x = sty u g l' oD oR l inp st0 (basesFrom 0 l.rungs) (scanR (getE k45 l.rungs i) inp s (getE (.int .i64) (basesFrom 0 l.rungs) i)).1 (scanR (getE k45 l.rungs i) inp s (getE (.int .i64) (basesFrom 0 l.rungs) i)).2.1 (did.set i true) (getE k45 l.rungs i) i ∧
            (scanR (getE k45 l.rungs i) inp s (getE (.int .i64) (basesFrom 0 l.rungs) i)).2.2 = 0)
          (fun x => x = sp 34 (sy41 l' (getE k45 l.rungs i) i) (hpG l inp st0 [.nils, .nils, .nils] [.nils] [.int .i64 (scanR (getE k45 l.rungs i) inp s (getE (.int .i64) (basesFrom 0 l.rungs) i)).2.2] (basesFrom 0 l.rungs) s on (did.set i true) ++ mo41 u g l' oD oDn l ++ [.box 46 (leaves k45 (getE k45 l.rungs i))]) ∧
            (scanR (getE k45 l.rungs i) inp s (getE (.int .i64) (basesFrom 0 l.rungs) i)).2.2 ≠ 0)
          a3.tmps.toList oR (.loop { state := .busy, pending := none, fn := fno, tmps := u.toArray, params := #[63, 64], assign := as11, body := bd11, defers := D }) oDn u g l' oD l inp st0 (basesFrom 0 l.rungs) s on did (getE k45 l.rungs i) i := by
          refine ⟨⟨hs, by omega, by omega⟩, brP_intro (fun c => ⟨⟨rfl, rfl⟩, rfl, ?_, by simpa using c⟩) (fun c => ⟨⟨rfl, rfl⟩, rfl, ?_, by simpa using c⟩)⟩
          · rw [Int.toNat_natCast]
          · rw [Int.toNat_natCast]
        exact kc (round11_eq _ _ _ _ _ _ _ _ _ _ _ _ _ _ _ _ _ _ _) ⟨⟨rfl, rfl⟩, hgetI, hbl, hx, hx⟩
      have hround := round_sound (n := n - 1) tt_ok env11 mixed hB (A := []) (fn := fno) (u := u) (ps := #[63, 64]) (assign := as11) (body := bd11) (D := D) (iL := 15) (l := l') (by kernel_rfl) (by kernel_rfl) r4 (by rw [← hoR]; rfl)
        (args := #[v17, v18]) rfl hsA (L := L17) (by rw [← hoR, ← hoDn]; exact hR)
      obtain ⟨fn', tmps', assign', body', hy, hR2⟩ := hround
      refine wpListIn_plain o41_guard fun K hK => ?_
      refine ⟨fun _ _ => trivial, ?_⟩
      have hsem : o41.semAt Fence.wide.round a3.eval = execOp a3.eval o41 := by simp [Fence.wide, Oper.semAt]
      have hv16 : v16 = .func (.yield l') #[] #[] := r16
      have hrun : (execOp a3.eval o41).run Try.prog w3 = .ok (.round l' fn' tmps' assign' body') w3 := by
        simp [execOp, o41_op, resolve, call41_callee, call41_args, ev 16 v16 e16, ev 17 v17 e17, ev 18 v18 e18, hv16, Deferred.ofValue, invoke, hy]
      rw [hsem, hrun]
      refine ⟨fun h => by simp [Fence.wide] at h, RoundIn.mono hR2 fun e w4 he => ?_⟩
      rcases he with ⟨rfl, s5, Ok5, β5, ⟨rfl, hok⟩, r5⟩ | ⟨rfl, s5, Ok5, β5, ⟨rfl, hbad⟩, r5⟩
      · -- on with the next
        refine hK _ _ ?_
        have r6 := r5.put (a := a3) o41.dst (av := .v (.one (.bool true))) (v := .bool true) rfl
        have hT : Tail41 (fun ex x => match ex with
            | .normal => x = st41 u g l' oD oR l inp st0 (basesFrom 0 l.rungs) (scanR (getE k45 l.rungs i) inp s (getE (.int .i64) (basesFrom 0 l.rungs) i)).1 (scanR (getE k45 l.rungs i) inp s (getE (.int .i64) (basesFrom 0 l.rungs) i)).2.1 (did.set i true)
                (nextR l i (scanR (getE k45 l.rungs i) inp s (getE (.int .i64) (basesFrom 0 l.rungs) i)).2.1 : Nat)
            | _ => False) u g l' oD oR l inp st0 (basesFrom 0 l.rungs) (scanR (getE k45 l.rungs i) inp s (getE (.int .i64) (basesFrom 0 l.rungs) i)).1 (scanR (getE k45 l.rungs i) inp s (getE (.int .i64) (basesFrom 0 l.rungs) i)).2.1 (did.set i true) (getE k45 l.rungs i) i := by
          have hw : IntKind.i64.wrap ((i : Int) + 1) = ((i + 1 : Nat) : Int) := by rw [wrap_in (by omega) (by omega)]; omega
          have hbj : (ByteArray.toList (getE k45 l.rungs i).2.2.2 != ByteArray.toList (ByteArray.mk #[])) = !decide (jumpAt l i = str0) := by rw [bne, strEq]; rfl
          refine kc (tail41_eq _ _ _ _ _ _ _ _ _ _ _ _ _ _ _) ?_
          rw [hw, hbj]
          refine brP_intro (fun c => ?_) (fun c => ?_)
          · refine brP_intro (fun d => ⟨⟨by omega, by omega⟩, by omega, ?_⟩) (fun d => ?_)
            · have hj := hv.jump i hlt (by simpa using d)
              show st41 _ _ _ _ _ _ _ _ _ _ _ _ (behind l i) = _
              have e1 : ((nextR l i (scanR (getE k45 l.rungs i) inp s (getE (.int .i64) (basesFrom 0 l.rungs) i)).2.1 : Nat) : Int) = behind l i := by
                unfold nextR
                rw [c, d]
                simp only [Bool.and_self, cond_true]
                omega
              rw [e1]
            · show st41 _ _ _ _ _ _ _ _ _ _ _ _ _ = _
              unfold nextR
              rw [c, d]
              rfl
          · show st41 _ _ _ _ _ _ _ _ _ _ _ _ _ = _
            unfold nextR
            rw [c]
            rfl
        unfold Tail41 at hT
        have e0 : putS (sty u g l' oD oR l inp st0 (basesFrom 0 l.rungs) (scanR (getE k45 l.rungs i) inp s (getE (.int .i64) (basesFrom 0 l.rungs) i)).1 (scanR (getE k45 l.rungs i) inp s (getE (.int .i64) (basesFrom 0 l.rungs) i)).2.1 (did.set i true) (getE k45 l.rungs i) i) o41.dst (.v (.one (.bool true))) =
            stz u g l' oD oR l inp st0 (basesFrom 0 l.rungs) (scanR (getE k45 l.rungs i) inp s (getE (.int .i64) (basesFrom 0 l.rungs) i)).1 (scanR (getE k45 l.rungs i) inp s (getE (.int .i64) (basesFrom 0 l.rungs) i)).2.1 (did.set i true) (getE k45 l.rungs i) i true := by rw [o41_dst]; rfl
        rw [e0] at r6
        have hdp : (a3.put o41.dst (.bool true)).defers = [] := by rw [put_defers]; exact hd3
        rw [show ops41.toList.drop 4 = ops41.toList.drop 4 ++ [] by simp]
        refine opsK_then tt_ok env41 hB (ops41.toList.drop 4) hdp r6 hT ?_
        rintro a7 w7 ⟨hd7, s7, Ok7, β7, hq, r7⟩
        refine wpListIn_nil ?_
        refine wpIn_mono (wpIn_wide.2 (awp_sound tt_ok env41 mixed hB (Code.b y41) 1 hd7 r7 hq)) fun e a8 w8 hq => ?_
        cases e with
        | normal =>
          obtain ⟨hd8, s8, Ok8, β8, hq, r8⟩ := hq
          refine wpIn_mono (wpIn_wide.2 (awp_sound tt_ok env41 mixed hB t41 1 hd8 r8 hq)) fun e a9 w9 hq => ?_
          cases e with
          | normal =>
            obtain ⟨hd9, s9, Ok9, β9, hq, r9⟩ := hq
            obtain ⟨s10, β10, hq, r10⟩ := dropK_sound r9 hq
            subst hq
            have hp9 := posOf_rel r10
            have hnx : i < nextR l i (scanR (getE k45 l.rungs i) inp s (getE (.int .i64) (basesFrom 0 l.rungs) i)).2.1 ∧ nextR l i (scanR (getE k45 l.rungs i) inp s (getE (.int .i64) (basesFrom 0 l.rungs) i)).2.1 ≤ l.rungs.length := by
              unfold nextR
              cases hc : ((scanR (getE k45 l.rungs i) inp s (getE (.int .i64) (basesFrom 0 l.rungs) i)).2.1 && !decide (jumpAt l i = str0)) with
              | true =>
                have hj := hv.jump i hlt (by simp at hc; exact hc.2)
                simp only [cond_true]
                omega
              | false => simp only [cond_false]; omega
            refine ⟨⟨hd9, nextR l i (scanR (getE k45 l.rungs i) inp s (getE (.int .i64) (basesFrom 0 l.rungs) i)).2.1, k - 1, _, _, _, Ok9, β10, hnx.2, by omega, scanR_small hs _ _ _, by rw [List.length_set]; exact hdid, ?_, r10⟩, by rw [hp9, hpos]; omega⟩
            cases k with
            | zero => omega
            | succ k =>
              simp only [scanGo] at hfin
              rw [decide_eq_false (show ¬ l.rungs.length ≤ i by omega)] at hfin
              have hok' : ((scanR (getE k45 l.rungs i) inp s (getE ki (basesFrom 0 l.rungs) i)).2.2 != 0) = false := by simpa using hok
              rw [hok'] at hfin
              exact hfin
          | _ => first | exact hq.elim | (obtain ⟨_, _, _, _, hq, _⟩ := hq; exact hq.elim)
        | _ => first | exact hq.elim | (obtain ⟨_, _, _, _, hq, _⟩ := hq; exact hq.elim)
      · -- a fault
        refine hK _ _ ?_
        refine iter_bad hB hd3 r5 (fun _ _ h => h) fun a8 w8 hd8 hr => ?_
        obtain ⟨Ok8, β9, r9⟩ := hr
        refine ⟨hd8, _, s, on, did.set i true, Ok8, β9, ?_, r9⟩
        cases k with
        | zero => omega
        | succ k =>
          simp only [scanGo] at hfin
          rw [decide_eq_false (show ¬ l.rungs.length ≤ i by omega)] at hfin
          have hbad' : ((scanR (getE k45 l.rungs i) inp s (getE ki (basesFrom 0 l.rungs) i)).2.2 != 0) = true := by simpa using hbad
          rw [hbad'] at hfin
          exact hfin.symm
    | _ => first | exact hq.elim | (obtain ⟨_, _, _, _, hq, _⟩ := hq; exact hq.elim)
  | _ => exact hq.elim
end
end Go.AM
