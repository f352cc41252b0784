/- The scan of a ladder: its spec, at the end. Conditions: none. -/
import Derived.Test.YtlfelhdcokadbaaC3
set_option linter.all false
namespace Go.AM
open Go.RowKit Go.Proofs
theorem start41 (l' : Nat) : spl 34 0 [(0, .v (.one (.yld l'))), (1, .v (.one (.ptr 11 0))), (2, .v (.one (.ptr 12 0)))] = [.v (.one (.yld l')), .v (.one (.ptr 11 0)), .v (.one (.ptr 12 0))] ++ List.replicate 31 (.v (.one .undef)) := by kernel_rfl
theorem raw15_sp (u : List Value) (g l' : Nat) (oD oL oX : Obj) (l : Lad) (inp : List Bool) (st0 : Sta) (r1 r2 r3 : List Lf) (bases : List Int) (s : Sta) (on : Bool) (did : List Bool) (sl : List (Nat × V)) (cs : List V) :
    setOb 15 (.raw l' oX) ⟨cs, (sp 34 sl (hpG l inp st0 r1 r2 r3 bases s on did ++ mo41 u g l' oD oL l)).heap⟩ = ⟨cs, hpG l inp st0 r1 r2 r3 bases s on did ++ mo41 u g l' oD oX l⟩ := by kernel_rfl
theorem push_eq (u : List Value) (g l' : Nat) (oD oL : Obj) (l : Lad) (inp : List Bool) (st0 : Sta) (bases : List Int) (s : Sta) (on : Bool) (did : List Bool) :
    (((hp11 l inp st0 bases s on did ++ [.box 24 (leaves k23 l), .box 64 [.ptr 9 0]]) ++ [.frame u (spl 88 0 (sl11 ++ [(62, .v (.one (.clo 41 [.id 11, .id 12])))]))]) ++ [.raw g oD]) ++ [.raw l' oL] = base41 u g l' oD oL l inp st0 bases s on did := by kernel_rfl
section
variable {w0 : World} {Ok0 : Nat → Prop} {Q : QT}
theorem heldB : ∀ g, Held w0 [] g → g < w0.heap.size := fun _ hg => hg.1
def clo62 : List (Nat × V) := sl11 ++ [(62, .v (.one (.clo 41 [.id 11, .id 12])))]
/-- What a function without results hands back. -/
theorem no_results {a : Act} {w : World} : ∃ v, (results Try.f41 a.tmps).run Try.prog w = .ok v w := by
  have h : (Try.f41.results.toList.mapM (resRun a.tmps)).run Try.prog w = .ok [] w := by
    have e : Try.f41.results.toList = [] := by kernel_rfl
    rw [e]; simp
  exact ⟨_, results_run h⟩
theorem after_good {n : Nat} {w : World} {Ok : Nat → Prop} {β : List Value} {a a2 : Act} {u : List Value} {g l' D : Nat} {oR : Obj} {fno : FuncId} {l : Lad} {inp : List Bool} {st0 : Sta} {fin : Sta × List Bool × Int} {s : Sta} {on : Bool} {did : List Bool} {i : Int} {Qx : Exit → Act → World → Prop}
    (hd : a.defers = []) (hd2 : a2.defers = []) (hu : u = a.tmps.toList)
    (hoR : oR = .loop { state := .ready, pending := none, fn := fno, tmps := u.toArray, params := #[63, 64], assign := as11, body := bd11, defers := D })
    (hf : fin = (s, did, 0))
    (r : Rel (Held w0 []) Ok0 w0 w Ok β (st41 u g l' (.deferred (some [])) oR l inp st0 (basesFrom 0 l.rungs) s on did i) a2.tmps.toList)
    (hN : ∀ (a' : Act) (w' : World) (u : List Value) (g l' : Nat) (oL : Obj) (s : Sta) (on : Bool) (did : List Bool) (Ok : Nat → Prop) (β : List Value), a'.defers = [{ target := .collected g, args := #[] }] → fin = (s, did, 0) →
      Rel (Held w0 []) Ok0 w0 w' Ok β (stp u g l' (.deferred (some [])) oL l inp st0 (basesFrom 0 l.rungs) s on did) a'.tmps.toList → Qx .normal a' w') :
    bodyPost Try.prog Try.f41 (rangePost Fence.wide n Try.prog l' Qx { a with defers := [{ target := .collected g, args := #[] }] ++ a.defers }) .normal a2 w := by
  obtain ⟨v, hv⟩ := no_results (a := a2) (w := w)
  have hw := (r.raw_get (i := 15) (g := l') (o := oR) rfl).1
  have hf13 := r.frame_get (i := 13) (u := u) (cs := spl 88 0 clo62) rfl
  rw [hoR] at hw
  refine ⟨hd2, v, hv, _, _, run_endLoop hw (by simp), ?_⟩
  have r2 := r.withSlots hf13
  rw [st41_heap] at r2
  obtain ⟨oX, hoX⟩ : ∃ oX : Obj, oX = .loop { state := .exhausted, pending := none, fn := fno, tmps := u.toArray, params := #[63, 64], assign := as11, body := bd11, defers := D } := ⟨_, rfl⟩
  have r3 := r2.raw_set heldB (i := 15) (g := l') (o := oR) rfl oX
  rw [raw15_eq] at r3
  subst hu
  have r4 := hN { a with defers := [{ target := .collected g, args := #[] }] ++ a.defers } _ a.tmps.toList g l' oX s on did Ok β (by simp [hd]) hf (by rw [stp_eq]; exact r3)
  rw [hoX] at r4
  exact r4
theorem after_bad {n : Nat} {w : World} {Ok : Nat → Prop} {β : List Value} {a a2 : Act} {u : List Value} {g l' D : Nat} {oDn : Obj} {fno : FuncId} {l : Lad} {inp : List Bool} {st0 : Sta} {fin : Sta × List Bool × Int} {e : Int} {s : Sta} {on : Bool} {did : List Bool} {Qx : Exit → Act → World → Prop}
    (hd : a.defers = []) (hd2 : a2.defers = []) (hu : u = a.tmps.toList)
    (hoDn : oDn = .loop { state := .done, pending := some .ret, fn := fno, tmps := u.toArray, params := #[63, 64], assign := as11, body := bd11, defers := D })
    (hf : fin = (zeroS, [], e))
    (r : Rel (Held w0 []) Ok0 w0 w Ok β (sp 34 [(0, .v (.one (.yld l')))] (hpG l inp st0 [.nils, .nils, .nils] [.nils] [.int .i64 e] (basesFrom 0 l.rungs) s on did ++ mo41 u g l' (.deferred (some [])) oDn l)) a2.tmps.toList)
    (hR : ∀ (a' : Act) (w' : World) (u : List Value) (g l' : Nat) (oL : Obj) (e : Int) (s : Sta) (on : Bool) (did : List Bool) (Ok : Nat → Prop) (β : List Value), a'.defers = [{ target := .collected g, args := #[] }] → fin = (zeroS, [], e) →
      Rel (Held w0 []) Ok0 w0 w' Ok β (sp 88 clo62 (hpG l inp st0 [.nils, .nils, .nils] [.nils] [.int .i64 e] (basesFrom 0 l.rungs) s on did ++ mo41 u g l' (.deferred (some [])) oL l)) a'.tmps.toList → Qx .ret a' w') :
    bodyPost Try.prog Try.f41 (rangePost Fence.wide n Try.prog l' Qx { a with defers := [{ target := .collected g, args := #[] }] ++ a.defers }) .ret a2 w := by
  obtain ⟨v, hv⟩ := no_results (a := a2) (w := w)
  have hw := (r.raw_get (i := 15) (g := l') (o := oDn) rfl).1
  have hf13 := r.frame_get (i := 13) (u := u) (cs := spl 88 0 clo62) rfl
  rw [hoDn] at hw
  refine ⟨hd2, v, hv, _, _, run_endLoop hw (by simp), wpIn_ret ?_⟩
  have r2 := r.withSlots hf13
  obtain ⟨oX, hoX⟩ : ∃ oX : Obj, oX = .loop { state := .exhausted, pending := some .ret, fn := fno, tmps := u.toArray, params := #[63, 64], assign := as11, body := bd11, defers := D } := ⟨_, rfl⟩
  have r3 := r2.raw_set heldB (i := 15) (g := l') (o := oDn) rfl oX
  rw [raw15_sp] at r3
  subst hu
  have r4 := hR { a with defers := [{ target := .collected g, args := #[] }] ++ a.defers } _ a.tmps.toList g l' oX e s on did Ok β (by simp [hd]) hf r3
  rw [hoX] at r4
  exact r4
/-- The loop over the rungs. -/
theorem range_ok {n : Nat} {w : World} {Ok : Nat → Prop} {β : List Value} {a : Act} {l : Lad} {inp : List Bool} {st0 : Sta} {did : List Bool} {fin : Sta × List Bool × Int} {Qx : Exit → Act → World → Prop} (hd : a.defers = [])
    (hv : Valid l) (hs : small st0) (hdid : did.length = l.rungs.length) (hfin : scanGo l inp l.rungs.length 0 st0 did = fin)
    (r : Rel (Held w0 []) Ok0 w0 w Ok β (sp 88 clo62 (hp11 l inp st0 (basesFrom 0 l.rungs) st0 false did ++ [.box 24 (leaves k23 l), .box 64 [.ptr 9 0]])) a.tmps.toList)
    (hN : ∀ (a' : Act) (w' : World) (u : List Value) (g l' : Nat) (oL : Obj) (s : Sta) (on : Bool) (did : List Bool) (Ok : Nat → Prop) (β : List Value), a'.defers = [{ target := .collected g, args := #[] }] → fin = (s, did, 0) →
      Rel (Held w0 []) Ok0 w0 w' Ok β (stp u g l' (.deferred (some [])) oL l inp st0 (basesFrom 0 l.rungs) s on did) a'.tmps.toList → Qx .normal a' w')
    (hR : ∀ (a' : Act) (w' : World) (u : List Value) (g l' : Nat) (oL : Obj) (e : Int) (s : Sta) (on : Bool) (did : List Bool) (Ok : Nat → Prop) (β : List Value), a'.defers = [{ target := .collected g, args := #[] }] → fin = (zeroS, [], e) →
      Rel (Held w0 []) Ok0 w0 w' Ok β (sp 88 clo62 (hpG l inp st0 [.nils, .nils, .nils] [.nils] [.int .i64 e] (basesFrom 0 l.rungs) s on did ++ mo41 u g l' (.deferred (some [])) oL l)) a'.tmps.toList → Qx .ret a' w') :
    (Code.rangeFunc (.tmp 62) #[63, 64] as11 bd11).wpIn Fence.wide n Try.prog Qx a w := by
  refine wpIn_rangeFunc fun fno hfn => ?_
  have h62 : ∃ v, a.tmps.toList[62]? = some v ∧ RelV w Ok β (.v (.one (.clo 41 [.id 11, .id 12]))) v := r.s.s.get rfl
  obtain ⟨v62, e62, vs, hvs, hcs⟩ := h62
  have hev : a.eval (.tmp 62) = .func (.func 41) #[] vs := by
    have h' : a.tmps[62]? = some v62 := by simpa using e62
    show a.tmps.getD 62 undef = _
    simp [h', hvs]
  obtain ⟨oR, hoR⟩ : ∃ oR : Obj, oR = .loop { state := .ready, pending := none, fn := fno, tmps := a.tmps.toList.toArray, params := #[63, 64], assign := as11, body := bd11, defers := w.heap.size } := ⟨_, rfl⟩
  obtain ⟨oDn, hoDn⟩ : ∃ oDn : Obj, oDn = .loop { state := .done, pending := some .ret, fn := fno, tmps := a.tmps.toList.toArray, params := #[63, 64], assign := as11, body := bd11, defers := w.heap.size } := ⟨_, rfl⟩
  have hoR' : oR = .loop { state := .ready, pending := none, fn := fno, tmps := a.tmps, params := #[63, 64], assign := as11, body := bd11, defers := w.heap.size } := by rw [hoR]
  have r0 := ((r.pushFrame heldB).pushRaw heldB (.deferred (some []))).pushRaw heldB oR
  rw [World.size_alloc] at r0
  have r1 : Rel (Held w0 []) Ok0 w0 ((w.alloc (.deferred (some []))).alloc oR) Ok ((β ++ [undef]) ++ [.pointer (some ⟨w.heap.size, 0, none⟩)] ++ [.pointer (some ⟨w.heap.size + 1, 0, none⟩)])
      ⟨spl 88 0 clo62, base41 a.tmps.toList w.heap.size (w.heap.size + 1) (.deferred (some [])) oR l inp st0 (basesFrom 0 l.rungs) st0 false did⟩ a.tmps.toList := by
    rw [← push_eq]
    exact r0
  clear r0
  refine ⟨w.heap.size + 1, [{ target := .collected w.heap.size, args := #[] }], (w.alloc (.deferred (some []))).alloc oR, { target := .fn (.func 41) vs, args := #[.func (.yield (w.heap.size + 1)) #[] #[]] }, (w.alloc (.deferred (some []))).alloc oR, 41,
    #[.func (.yield (w.heap.size + 1)) #[] #[]] ++ vs, (w.alloc (.deferred (some []))).alloc oR, ?_, ?_, fun _ _ => trivial, ?_, fun h => by simp [Fence.wide] at h, ?_⟩
  · rw [hoR']; exact run_enterLoop_outer _ _ _ _ _
  · simp only [resolve, hev]; simp [go_sem]
  · simp [invoke, go_sem, run_callFunc (P := Try.prog) (f := 41) (by kernel_rfl)]
  refine callsIn_of_wp Try.func41 body41 trivial ?_
  have hlen : vs.toList.length = 2 := hcs.length.symm
  have hsz : vs.size = 2 := by simpa using hlen
  have hAll : All2 (RelV ((w.alloc (.deferred (some []))).alloc oR) Ok ((β ++ [undef]) ++ [.pointer (some ⟨w.heap.size, 0, none⟩)] ++ [.pointer (some ⟨w.heap.size + 1, 0, none⟩)]))
      (spl 34 0 [(0, .v (.one (.yld (w.heap.size + 1)))), (1, .v (.one (.ptr 11 0))), (2, .v (.one (.ptr 12 0)))])
      ((#[Value.func (.yield (w.heap.size + 1)) #[] #[]] ++ vs) ++ Array.replicate (Try.f41.ntmps - (#[Value.func (.yield (w.heap.size + 1)) #[] #[]] ++ vs).size) undef).toList := by
    rw [start41, Array.toList_append]
    refine All2.append ?_ (All2.of_get (by simp [hsz, ntmps41]) fun i x y hx _ => ?_)
    · rw [Array.toList_append]
      generalize vs.toList = us at hcs
      match us, hcs with
      | [c1, c2], ⟨h1, h2, _⟩ =>
        obtain ⟨g1, e1, f1⟩ := h1
        obtain ⟨g2, e2, f2⟩ := h2
        exact ⟨rfl, ⟨g1, get_append_some (get_append_some (get_append_some e1)), f1⟩, ⟨g2, get_append_some (get_append_some (get_append_some e2)), f2⟩, trivial⟩
    · have : x = .v (.one .undef) := by
        obtain ⟨_, hx⟩ := List.getElem?_eq_some_iff.1 hx
        rw [← hx]; exact List.getElem_replicate _
      rw [this]; trivial
  have r2 := r1.withSlots hAll
  rw [c41_eq]
  have hS := kc (start41_eq (fun ex s => ex = .normal ∧ s = st41 a.tmps.toList w.heap.size (w.heap.size + 1) (.deferred (some [])) oR l inp st0 (basesFrom 0 l.rungs) st0 false did 0) a.tmps.toList w.heap.size (w.heap.size + 1) (.deferred (some [])) oR l inp st0 (basesFrom 0 l.rungs) st0 false did) ⟨rfl, rfl⟩
  have hq1 : (Code.a c41).wpIn Fence.wide (n - 1) Try.prog (PostX [] (Held w0 []) Ok0 w0 fun ex s => ex = .normal ∧ s = st41 a.tmps.toList w.heap.size (w.heap.size + 1) (.deferred (some [])) oR l inp st0 (basesFrom 0 l.rungs) st0 false did 0)
      { tmps := (#[Value.func (.yield (w.heap.size + 1)) #[] #[]] ++ vs) ++ Array.replicate (Try.f41.ntmps - (#[Value.func (.yield (w.heap.size + 1)) #[] #[]] ++ vs).size) undef, defers := [] } ((w.alloc (.deferred (some []))).alloc oR) :=
    wpIn_wide.2 (awp_sound tt_ok env41 mixed heldB (Code.a c41) 0 rfl r2 hS)
  refine wpIn_seq (wpIn_mono hq1 fun e a1 w1 hq => ?_)
  cases e with
  | normal =>
    obtain ⟨hd1, s1, Ok1, β1, ⟨_, rfl⟩, r3⟩ := hq
    refine wpIn_block (wpIn_mono (iter_loop heldB hv hoR hoDn hd1 hs hdid hfin r3) fun e a2 w2 hq => ?_)
    cases e with
    | exit k =>
      match k, hq with
      | 0, ⟨hd2, s, on, did2, i, Ok2, β2, hf, r4⟩ =>
        exact after_good hd hd2 rfl hoR hf r4 hN
    | ret =>
      obtain ⟨hd2, e, s, on, did2, Ok2, β2, hf, r4⟩ := hq
      exact after_bad hd hd2 rfl hoDn hf r4 hR
    | _ => exact hq.elim
  | _ => first | exact hq.elim | (obtain ⟨_, _, _, _, ⟨h, _⟩, _⟩ := hq; cases h)
theorem inl26_self (u : List Value) (l : Lad) (inp : List Bool) (st0 : Sta) (bases : List Int) (s : Sta) (did : List Bool) :
    Inl26 (fun res h' => res = [.one (.clo 41 [.id 12, .id 13])] ∧ h' = hp11 l inp st0 bases s false did ++ [.frame u (spl 88 0 (sl11 ++ [(61, .v (nfK k23 l))]))] ++ [.box 24 (leaves k23 l), .box 64 [.ptr 9 0]]) u l inp st0 bases s did ∧ True := by
  rw [← inl26_eq]
  exact ⟨⟨rfl, rfl⟩, trivial⟩
theorem post11_self (u : List Value) (g l' : Nat) (oD oL : Obj) (l : Lad) (inp : List Bool) (st0 : Sta) (bases : List Int) (s : Sta) (on : Bool) (did : List Bool) :
    Post11 (fun ex s' => ex = .ret ∧ s' = sp 88 sk11 (hpG l inp st0 (leaves k26 s) [.own 10] [.int .i64 0] bases s on did ++ mo41 u g l' oD oL l)) u g l' oD oL l inp st0 bases s on did ∧ True := by
  rw [← post11_eq]
  exact ⟨⟨⟨rfl, rfl⟩, rfl, rfl⟩, trivial⟩
set_option maxRecDepth 100000 in
/-- The scan behind its checks. -/
theorem main11 {n : Nat} {w : World} {Ok : Nat → Prop} {β : List Value} {a : Act} {l : Lad} {inp : List Bool} {st : Sta} (hd : a.defers = []) (hs : small st) (hc : (checkL l).2 = 0)
    (hsc : scanL l inp st = scanGo l inp l.rungs.length 0 st (List.replicate l.rungs.length false))
    (hq : Q [nfK k26 (scanL l inp st).1, .one (.sl 4 .bool (scanL l inp st).2.1), .one (.int .i64 (scanL l inp st).2.2)] [])
    (r : Rel (Held w0 []) Ok0 w0 w Ok β (sp 88 sl11 (hp11 l inp st (basesFrom 0 l.rungs) st false (List.replicate l.rungs.length false))) a.tmps.toList) :
    z11.wpIn Fence.wide n Try.prog (bodyPostM Fence.wide n Try.prog Try.f11 (R11 w0 Ok0 Q)) a w := by
  rw [z11_eq]
  refine wpIn_seq (wpIn_seq ?_)
  rw [r10_eq]
  refine wpIn_region_list ?_
  rw [ops10_eq]
  refine opsK_then tt_ok env11 heldB (ops10.toList.take 1) hd r (kc (load61_eq (fun s => s = sp 88 (sl11 ++ [(61, .v (nfK k23 l))]) (hp11 l inp st (basesFrom 0 l.rungs) st false (List.replicate l.rungs.length false))) l inp st (basesFrom 0 l.rungs) st false (List.replicate l.rungs.length false)) rfl) ?_
  rintro a1 w1 ⟨hd1, s1, Ok1, β1, rfl, r1⟩
  refine wpListIn_plain o62_guard fun K hK => ⟨fun _ _ => trivial, ?_⟩
  have h61 : ∃ v, a1.tmps.toList[61]? = some v ∧ RelV w1 Ok1 β1 (.v (nfK k23 l)) v := r1.s.s.get rfl
  have h14 : ∃ v, a1.tmps.toList[14]? = some v ∧ RelV w1 Ok1 β1 (.v (.one (.ptr 9 0))) v := r1.s.s.get rfl
  obtain ⟨v61, e61, r61⟩ := h61
  obtain ⟨v14, e14, r14⟩ := h14
  have ev : ∀ t v, a1.tmps.toList[t]? = some v → a1.eval (.tmp t) = v := fun t v h => by
    have h' : a1.tmps[t]? = some v := by simpa using h
    show a1.tmps.getD t undef = v
    simp [h']
  have e26 : a1.eval (.func 26) = .func (.func 26) #[] #[] := rfl
  have hsem : o62.semAt Fence.wide.round a1.eval = execOp a1.eval o62 := by simp [Fence.wide, Oper.semAt]
  have hrun : (execOp a1.eval o62).run Try.prog w1 = .ok (.enter 26 [v61, v14].toArray) w1 := by
    simp [execOp, o62_op, resolve, call62_callee, call62_args, ev 61 v61 e61, ev 14 v14 e14, e26, Deferred.ofValue, invoke, run_callFunc (P := Try.prog) (f := 26) (by kernel_rfl)]
  rw [hsem, hrun]
  obtain ⟨hI, -⟩ := inl26_self a1.tmps.toList l inp st (basesFrom 0 l.rungs) st (List.replicate l.rungs.length false)
  refine ⟨fun h => by simp [Fence.wide] at h, calls_wide (Calls.mono (inline_calls r1 heldB spec26 (xs := [nfK k23 l, .one (.ptr 9 0)]) (vals := [v61, v14]) ⟨r61, r14, trivial⟩ (by assumption)) fun e w2 he => ?_)⟩
  obtain ⟨v, rfl, res, h', Ok2, β2, ⟨rfl, rfl⟩, hret, r2⟩ := he
  refine hK _ _ (wpListIn_nil ?_)
  have hf := r2.frame_get (i := 11) (u := a1.tmps.toList) (cs := spl 88 0 (sl11 ++ [(61, .v (nfK k23 l))])) rfl
  have r3 := (r2.withSlots hf).put (a := a1) o62.dst (av := .v (.one (.clo 41 [.id 12, .id 13]))) (v := v) hret
  rw [o62_dst] at r3
  obtain ⟨s4, β4, rfl, r4⟩ := dropK_sound r3 (kc (mid62_eq (fun s => s = sp 88 clo62 (hp11 l inp st (basesFrom 0 l.rungs) st false (List.replicate l.rungs.length false) ++ [.box 24 (leaves k23 l), .box 64 [.ptr 9 0]])) a1.tmps.toList l inp st (basesFrom 0 l.rungs) st false (List.replicate l.rungs.length false)) rfl)
  refine wpIn_block (range_ok (by rw [put_defers]; exact hd1) (valid_of hc) hs (by simp) hsc.symm (by rw [o62_dst]; exact r4) ?_ ?_)
  · intro a5 w5 u g l' oL s on did Ok5 β5 hd5 hf5 r5
    rw [hf5] at hq
    obtain ⟨hX, -⟩ := post11_self u g l' (.deferred (some [])) oL l inp st (basesFrom 0 l.rungs) s on did
    unfold Post11 at hX
    refine wpIn_mono (wpIn_wide.2 (awp_sound tt_ok env11 mixed heldB post11 0 hd5 r5 (by assumption))) fun e a6 w6 h6 => ?_
    cases e with
    | ret =>
      obtain ⟨hd6, s6, Ok6, β6, h6, r6⟩ := h6
      obtain ⟨s7, β7, ⟨_, rfl⟩, r7⟩ := dropK_sound r6 h6
      exact fin_leave hd6 r7 (kc (res_good Q u g l' (.deferred none) oL l inp st (basesFrom 0 l.rungs) s on did) hq)
    | _ => first | exact h6.elim | (obtain ⟨_, _, _, _, h6, _⟩ := h6; exact h6.elim)
  · intro a5 w5 u g l' oL e s on did Ok5 β5 hd5 hf5 r5
    rw [hf5] at hq
    exact fin_leave hd5 r5 (kc (res_bad2 Q u g l' (.deferred none) oL l inp st e (basesFrom 0 l.rungs) s on did) hq)
/-- The scan's way out ahead of the loop. -/
def Q11 (l : Lad) (inp : List Bool) (st : Sta) : Ex → St → Prop := fun ex s => match ex with
  | .normal => (checkL l).2 = 0 ∧ scanL l inp st = scanGo l inp l.rungs.length 0 st (List.replicate l.rungs.length false) ∧ s = sp 88 sl11 (hp11 l inp st (basesFrom 0 l.rungs) st false (List.replicate l.rungs.length false))
  | .ret => ∃ e, s = sr11 e ∧ scanL l inp st = (zeroS, [], e)
  | _ => False
theorem pre_ok (l : Lad) (inp : List Bool) (st : Sta) (hs : small st) : Pre11 (Q11 l inp st) l inp st ∧ True := by
  refine ⟨?_, trivial⟩
  rw [← pre11_eq]
  refine (brP_intro (fun c => ?_) (fun c => ⟨(valid_of (by simpa using c)).wide, ?_⟩))
  · exact ⟨_, rfl, by simp [scanL, c]⟩
  · have hc : (checkL l).2 = 0 := by simpa using c
    have hl := (valid_of hc).len
    have hsz : sizeE l = (l.1, l.2.1, l.2.2.1, getE (.int .i64) (basesFrom 0 l.rungs) (l.rungs.length : Int)) := by unfold sizeE; rfl
    refine brP_intro (fun d => ?_) (fun d => ⟨⟨by omega, by rw [basesFrom_len]; omega⟩, ?_⟩)
    · have d' : ¬ (inp.length : Int) = l.1 := by simpa using d
      exact ⟨_, rfl, by simp [scanL, hc, d']⟩
    · have d' : (inp.length : Int) = l.1 := by simpa using d
      refine brP_intro (fun f => ?_) (fun f => ⟨hs, ⟨by omega, by omega, by omega⟩, ?_, ?_⟩)
      · have f' : fits (sizeE l) st = false := by rw [hsz]; simpa using f
        exact ⟨_, rfl, by simp [scanL, hc, f']⟩
      · rw [Int.toNat_natCast]; exact room4 (by omega)
      · have f' : fits (sizeE l) st = true := by rw [hsz]; simpa using f
        refine ⟨hc, by simp [scanL, hc, d', f'], ?_⟩
        rw [Int.toNat_natCast]; rfl
set_option maxRecDepth 100000 in
theorem spec_p11 : SpecOk Try.prog 11 p11 := by
  rintro args h K ⟨rfl, l, inp, st, Q, rfl, rfl, hs, hq⟩ w0 Ok0 β0 vals hargs hH
  have hb : β0 = [] := List.eq_nil_of_length_eq_zero hH.objs.length.symm
  subst hb
  have hlen := hargs.length
  refine (callsIn_wide (n := 0)).1 (callsIn_of_wp_marks Try.func11 body11 trivial ?_)
  have r : Rel (Held w0 []) Ok0 w0 w0 Ok0 [] (st11 l inp st) (vals.toArray ++ Array.replicate (Try.f11.ntmps - vals.toArray.size) undef).toList := by
    rw [← start11]
    refine ⟨⟨hH, ?_⟩, ⟨rfl, rfl, rfl, Nat.le_refl _, fun _ _ => rfl⟩, fun v g hv => by simp at hv, fun g hg => .inl hg, fun g hg => hg⟩
    rw [Array.toList_append]
    refine All2.append (All2.map _ hargs) (All2.of_get (by simp [← hlen, ntmps11]) fun i x y hx _ => ?_)
    have : x = .v (.one .undef) := by
      obtain ⟨_, hx⟩ := List.getElem?_eq_some_iff.1 hx
      rw [← hx]; exact List.getElem_replicate _
    rw [this]; trivial
  obtain ⟨hP, -⟩ := pre_ok l inp st hs
  unfold Pre11 at hP
  rw [c11_eq]
  refine awpL_sound (ds := []) tt_ok env11 mixed heldB 0 (fun a w hx => ?_) (fun e a w he hx => ?_) pre11 rfl r (by assumption)
  · obtain ⟨hd, s1, Ok1, β1, hx, r1⟩ := hx
    obtain ⟨s2, β2, ⟨hc, hsc, rfl⟩, r2⟩ := normK_sound r1 hx
    exact main11 hd hs hc hsc hq r2
  · cases e with
    | ret =>
      obtain ⟨hd, s1, Ok1, β1, hx, r1⟩ := hx
      obtain ⟨s2, β2, ⟨e, rfl, hsc⟩, r2⟩ := normK_sound r1 hx
      show LeavesInM Fence.wide 0 Try.prog Try.f11 a.tmps (R11 w0 Ok0 Q) a.defers .returning w
      rw [hd]
      rw [hsc] at hq
      exact fin_ret r2 (kc (res_bad Q e) hq)
    | normal => exact absurd rfl he
    | exit _ => obtain ⟨_, _, _, _, hq, _⟩ := hx; exact hq.elim
    | _ => exact hx.elim
end
theorem spec11 : SpecOk Try.prog 11 sp11 := by
  refine (spec_p11.sealing ks11).data fun args hp Q hq => ?_
  unfold sp11 S3 at hq
  split at hq
  · obtain ⟨x, hx, hq⟩ := dK_iff hq
    obtain ⟨y, hy, hq⟩ := dK_iff hq
    obtain ⟨z, hz, hq⟩ := dK_iff hq
    exact ⟨rfl, [⟨k23, x⟩, ⟨kbs, y⟩, ⟨k26, z⟩], ⟨hx, hy, hz, trivial⟩, rfl, rfl, x, y, z, Q, rfl, rfl, hq⟩
  · exact hq.elim
end Go.AM
