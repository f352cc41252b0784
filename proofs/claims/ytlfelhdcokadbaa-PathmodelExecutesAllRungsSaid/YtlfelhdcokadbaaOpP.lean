/- The abstract machine: one operation that changes no memory. Conditions: none. -/
import Derived.Test.YtlfelhdcokadbaaRead
import Derived.Laws.Small
import Derived.Laws.Cover3
import Derived.Laws.RangeAny
import Derived.Laws.Strings
set_option linter.all false
namespace Go.AM
open Go.RowKit
section
variable {P : Program} {T : TT} {E : Env} {w : World} {Ok : Nat → Prop} {β : List Value}
theorem isBoolT_spec (hT : ttOk P T = true) {t : TypeId} (h : isBoolT T t = true) : P.underlying t = some .bool := by
  unfold isBoolT at h
  split at h
  · rename_i i hi
    split at h
    · rename_i hk
      obtain ⟨pi, d, z, f⟩ := ti_facts hT hi
      have := f.kd
      rw [hk] at this
      rw [f.und]
      cases d <;> simp [kdOk] at this
      rfl
    · cases h
  · cases h
theorem isStrT_spec (hT : ttOk P T = true) {t : TypeId} (h : isStrT T t = true) : P.underlying t = some .string := by
  unfold isStrT at h
  split at h
  · rename_i i hi
    split at h
    · rename_i hk
      obtain ⟨pi, d, z, f⟩ := ti_facts hT hi
      have := f.kd
      rw [hk] at this
      rw [f.und]
      cases d <;> simp [kdOk] at this
      rfl
    · cases h
  · cases h
theorem byteAt_eq {s : ByteArray} {i : Nat} (h : i < s.size) : byteAt s i = ((s[i]'h).toNat : Int) := by
  have h2 : i < s.data.size := h
  simp only [byteAt]
  rw [← Array.getElem_eq_getD (h := h2)]
  rfl
theorem binK_sound (hT : ttOk P T = true) {o : BinOp} {x y : Lf} {Q : Lf → Prop} {t : TypeId} (h : binK (isBoolT T t) (skind T t).isSome o x y Q) {u v : Value} (hx : RelV1 w Ok β (.one x) u) (hy : RelV1 w Ok β (.one y) v) :
    ∃ r z, Q r ∧ RelL w Ok β r z ∧ ∀ (w' : World) (X Y : Operand), (do eqGuard o t X Y u v; binOp o t u v : Sem Value).run P w' = .ok z w' := by
  unfold binK at h
  split at h
  · rename_i k a k' b
    obtain ⟨hk, h2⟩ := ifK_iff h
    have hk : k = k' := by simpa using hk
    subst hk
    have hu : u = .int k a := hx
    have hv : v = .int k b := hy
    subst hu; subst hv
    clear h hx hy hk
    have hg : ∀ (w' : World) (X Y : Operand), (eqGuard o t X Y (.int k a) (.int k b)).run P w' = .ok () w' := by
      intro w' X Y; unfold eqGuard; split <;> simp
    split at h2
    · exact ⟨_, .int k (k.wrap (a + b)), h2, rfl, fun w' X Y => by simp [hg, binOp, Op.intArith]⟩
    · exact ⟨_, .int k (k.wrap (a - b)), h2, rfl, fun w' X Y => by simp [hg, binOp, Op.intArith]⟩
    · exact ⟨_, .int k (k.wrap (a * b)), h2, rfl, fun w' X Y => by simp [hg, binOp, Op.intArith]⟩
    · exact ⟨_, .int k (k.wrap (a.tdiv b)), h2.2, rfl, fun w' X Y => by simp [hg, binOp, Op.intDiv, h2.1]⟩
    · obtain ⟨r, hr, hq⟩ := someK_iff h2
      refine ⟨_, .bool r, hq, rfl, fun w' X Y => ?_⟩
      unfold cmpI at hr
      split at hr <;> cases hr <;> simp [hg, binOp, Op.intCmp]
  · rename_i a b
    have hu : u = .string a := hx
    have hv : v = .string b := hy
    subst hu; subst hv
    have hg : ∀ (w' : World) (X Y : Operand), (eqGuard o t X Y (.string a) (.string b)).run P w' = .ok () w' := by
      intro w' X Y; unfold eqGuard; split <;> simp
    split at h
    · exact ⟨_, .bool (a.toList == b.toList), h, rfl, fun w' X Y => by simp [hg, binOp, Op.stringOp]⟩
    · exact ⟨_, .bool (a.toList != b.toList), h, rfl, fun w' X Y => by simp [hg, binOp, Op.stringOp, bne]⟩
    · exact h.elim
  · rename_i a b
    obtain ⟨hb, h2⟩ := ifK_iff h
    have hu : u = .bool a := hx
    have hv : v = .bool b := hy
    subst hu; subst hv
    clear h hx hy
    have hg : ∀ (w' : World) (X Y : Operand), (eqGuard o t X Y (.bool a) (.bool b)).run P w' = .ok () w' := by
      intro w' X Y; unfold eqGuard; split <;> simp
    have he : ∀ w' : World, (Op.equal t (.bool a) (.bool b)).run P w' = .ok (a == b) w' := fun w' => run_equal_bool w' t a b (isBoolT_spec hT hb)
    split at h2
    · exact ⟨_, .bool (a == b), h2, rfl, fun w' X Y => by simp [hg, binOp, he]⟩
    · exact ⟨_, .bool (a != b), h2, rfl, fun w' X Y => by simp [hg, binOp, he, bne]⟩
    · exact h2.elim
  · rename_i e k l
    obtain ⟨hb, h2⟩ := ifK_iff h
    have hv : v = .slice none 0 0 := hy
    subst hv
    obtain ⟨⟨e', k'⟩, hek⟩ := Option.isSome_iff_exists.1 hb
    obtain ⟨ie, z, hu, _⟩ := skind_facts hT hek
    have hul : ∃ a n c, u = .slice a n c ∧ (a = none → l = []) := by
      rcases hx with ⟨hl, a, rfl⟩ | ⟨g, off, cap, cur, t, fr, rfl, _⟩
      · exact ⟨a, 0, 0, rfl, fun _ => hl⟩
      · exact ⟨some ⟨g, off, none⟩, l.length, cap, rfl, fun h => by cases h⟩
    obtain ⟨ad, n, c, rfl, hn⟩ := hul
    have hg : ∀ (w' : World) (X Y : Operand), (eqGuard o t X Y (.slice ad n c) (.slice none 0 0)).run P w' = .ok () w' := by
      intro w' X Y; unfold eqGuard; split <;> simp
    have he : ∀ w' : World, (Op.equal t (.slice ad n c) (.slice none 0 0)).run P w' = .ok ad.isNone w' := fun w' => run_equal_slice_nil w' t e' ad n c hu
    clear h hx hy
    split at h2
    · exact ⟨_, .bool ad.isNone, h2 ad.isNone (fun h => hn (by simpa using h)), rfl, fun w' X Y => by simp [hg, binOp, he]⟩
    · exact ⟨_, .bool (!ad.isNone), h2 ad.isNone (fun h => hn (by simpa using h)), rfl, fun w' X Y => by simp [hg, binOp, he]⟩
    · exact h2.elim
  · exact h.elim

theorem idxB_sound {x : Int} {Q : Nat → Prop} : ∀ {n j : Nat}, idxB x Q n j → ∀ m, j ≤ m → m < j + n → x = (m : Int) → Q m
  | 0, j, _, m, h1, h2, _ => by omega
  | n + 1, j, h, m, h1, h2, hx => by
    unfold idxB at h
    by_cases e : m = j
    · subst e
      rw [show decide (x = (m : Int)) = true from decide_eq_true hx] at h
      exact h
    · rw [show decide (x = (j : Int)) = false from decide_eq_false (by omega)] at h
      exact idxB_sound (show idxB x Q n (j + 1) from h) m (by omega) (by omega) hx

theorem field_facts {t : TypeId} {i : TI} {pi : TypeInfo} {d : TypeDesc} {z : Value} (f : TiFacts P t i pi d z) {fs : Array Field} (hd : d = .struct fs) {j : Nat} {x : Nat × Nat × Bool} (hx : i.fields[j]? = some x) :
    ∃ fl ti dd, fs[j]? = some fl ∧ fl.offset = x.1 ∧ 0 < x.2.1 ∧ P.info? fl.type = some ti ∧ ti.size = x.2.1 ∧ P.underlying fl.type = some dd ∧ aggOf dd = x.2.2 := by
  have h := f.desc
  subst hd
  have h2 : All2 (fun x y => fieldOk P x y = true) i.fields fs.toList := all2B_spec (fun _ _ h => h) (by simp only [descOk, Bool.and_eq_true] at h; exact h.2)
  obtain ⟨fl, hfl, ho⟩ := h2.get hx
  simp only [fieldOk, Bool.and_eq_true] at ho
  obtain ⟨⟨⟨h1, h0⟩, h3⟩, h4⟩ := ho
  split at h3
  · rename_i ti hti
    split at h4
    · rename_i dd hdd
      exact ⟨fl, ti, dd, by simpa using hfl, by simpa using h1, by simpa using h0, hti, by simpa using h3, hdd, by simpa using h4⟩
    · cases h4
  · cases h3
theorem struct_of {t : TypeId} {i : TI} {pi : TypeInfo} {d : TypeDesc} {z : Value} (f : TiFacts P t i pi d z) {j : Nat} {x : Nat × Nat × Bool} (hx : i.fields[j]? = some x) (hl : Nat.beq i.len 0 = true) :
    ∃ fs, d = .struct fs := by
  have hd := f.desc
  have hne : i.fields ≠ [] := by rintro e; rw [e] at hx; simp at hx
  cases d with
  | struct fs => exact ⟨fs, rfl⟩
  | array n e =>
    exfalso
    simp only [descOk, Bool.and_eq_true, beq_iff_eq] at hd
    obtain ⟨⟨h1, _⟩, h2⟩ := hd
    rw [Nat.eq_of_beq_eq_true hl] at h1
    split at h2
    · subst h1
      simp at h2
      exact hne h2
    · cases h2
  | slice e => exfalso; simp only [descOk, Bool.and_eq_true, List.isEmpty_iff] at hd; exact hne hd.1.2
  | _ => exfalso; simp only [descOk, Bool.and_eq_true, List.isEmpty_iff] at hd; exact hne hd.2
theorem array_len {t : TypeId} {i : TI} {pi : TypeInfo} {d : TypeDesc} {z : Value} (f : TiFacts P t i pi d z) (hl : i.len ≠ 0) : ∃ n e, d = .array n e := by
  have hd := f.desc
  cases d with
  | array n e => exact ⟨n, e, rfl⟩
  | slice e => exfalso; simp only [descOk, Bool.and_eq_true] at hd; exact hl (Nat.eq_of_beq_eq_true hd.1.1)
  | _ => exfalso; simp only [descOk, Bool.and_eq_true] at hd; exact hl (Nat.eq_of_beq_eq_true hd.1)
/-- An array type's parts. -/
theorem array_of {t : TypeId} {i : TI} {pi : TypeInfo} {d : TypeDesc} {z : Value} (f : TiFacts P t i pi d z) {n : Nat} {e : TypeId} (hd : d = .array n e) :
    i.len = n ∧ i.elem = e ∧ ∃ ie de, P.info? e = some ie ∧ P.underlying e = some de ∧ i.fields = (List.range n).map fun j => (j * ie.size, ie.size, aggOf de) := by
  have h := f.desc
  subst hd
  simp only [descOk, Bool.and_eq_true, beq_iff_eq] at h
  obtain ⟨⟨h1, h2⟩, h3⟩ := h
  split at h3
  · rename_i ie de hie hde
    exact ⟨h1, h2, ie, de, hie, hde, by simpa using h3⟩
  · cases h3
theorem mapM_all2 {α γ : Type} {g : α → Option γ} : ∀ {l : List α} {l' : List γ}, l.mapM g = some l' → All2 (fun b a => g a = some b) l' l
  | [], l', h => by simp at h; subst h; trivial
  | x :: l, l', h => by
    simp only [List.mapM_cons, Option.bind_eq_bind, Option.pure_def, Option.bind_eq_some_iff] at h
    obtain ⟨y, hy, ys, hys, e⟩ := h
    cases e
    exact ⟨hy, mapM_all2 hys⟩
theorem all2_mapM {α γ : Type} {g : α → Option γ} : ∀ {l : List α} {l' : List γ}, All2 (fun b a => g a = some b) l' l → l.mapM g = some l'
  | [], [], _ => rfl
  | x :: l, y :: l', h => by
    simp only [List.mapM_cons, h.1, all2_mapM h.2]; rfl
  | [], _ :: _, h => h.elim
  | _ :: _, [], h => h.elim
theorem all2_flip {α γ : Type} {R : α → γ → Prop} : ∀ {l : List α} {m : List γ}, All2 R l m → All2 (fun b a => R a b) m l
  | [], [], _ => trivial
  | _ :: _, _ :: _, h => ⟨h.1, all2_flip h.2⟩
theorem built_sound {t : TypeId} {i : TI} {pi : TypeInfo} {d : TypeDesc} {z : Value} (f : TiFacts P t i pi d z) {vs : List (Nat × V1)} {ps : List (Nat × Value)} {cs : List Lf} (hf : fillL i.fields vs i.zero = some cs)
    (hv : All2 (fun x (p : Nat × Value) => x.1 = p.1 ∧ RelV1 w Ok β x.2 p.2) vs ps) (hag : aggOf d = true) : ∃ us, P.built t ps = some us ∧ All2 (RelL w Ok β) cs us.toList := by
  cases d with
  | struct fs =>
    have h := f.desc
    have h2 : All2 (fun x y => fieldOk P x y = true) i.fields fs.toList := all2B_spec (fun _ _ h => h) (by simp only [descOk, Bool.and_eq_true] at h; exact h.2)
    have hm : fs.toList.mapM (fun f => (P.info? f.type).map fun i => (f.offset, i.size)) = some (i.fields.map fun x => (x.1, x.2.1)) := by
      refine all2_mapM (All2.map (fun x => (x.1, x.2.1)) (h2.mono fun x fl ho => ?_))
      simp only [fieldOk, Bool.and_eq_true] at ho
      obtain ⟨⟨⟨h1, _⟩, h3⟩, _⟩ := ho
      split at h3
      · rename_i ti hti
        simp only [beq_iff_eq] at h1 h3
        simp [hti, h1, h3]
      · cases h3
    obtain ⟨us, h1, h2⟩ := fillL_sound (w := w) (Ok := Ok) (β := β) (pl := ((i.fields.map fun x => (x.1, x.2.1)).toArray[·]?)) (fun j x hx => by simp [hx]) hf hv (f.zeroR w Ok β)
    exact ⟨us, by simp only [Program.built, f.info, f.und, f.zero, hm]; exact h1, h2⟩
  | array n e =>
    obtain ⟨_, _, ie, de, hie, _, hfs⟩ := array_of f rfl
    obtain ⟨us, h1, h2⟩ := fillL_sound (w := w) (Ok := Ok) (β := β) (pl := fun i => some (i * ie.size, ie.size)) (fun j x hx => by
      rw [hfs, List.getElem?_map] at hx
      cases hr : (List.range n)[j]? with
      | none => rw [hr] at hx; cases hx
      | some m =>
        rw [hr] at hx
        cases hx
        have : m = j := by
          rw [List.getElem?_eq_some_iff] at hr
          obtain ⟨_, hr⟩ := hr
          simpa using hr.symm
        subst this
        rfl) hf hv (f.zeroR w Ok β)
    exact ⟨us, by simp only [Program.built, f.info, f.und, f.zero, hie]; exact h1, h2⟩
  | _ => simp [aggOf] at hag
/-- What an operation that only reads yields: whatever the world, if it does not look at memory. -/
def Pure1 (P : Program) (o : Oper) (a : Act) (w : World) (v : Value) : Prop := ∀ w' : World, (isLoad o = true → Grow w w') → (execOp a.eval o).run P w' = .ok (.value v) w'
theorem RelV1.int1 {k : IntKind} {x : Int} {v : Value} (h : RelV1 w Ok β (.one (.int k x)) v) : v = .int k x := h
theorem aop_pure (hT : ttOk P T = true) {o : Oper} (hc : isAct o = false) {st : St} {a : Act} (r : RelS w Ok β st a.tmps.toList) {K : V → St → Prop} (h : aop T E o st K) :
    ∃ av v, K av st ∧ RelV w Ok β av v ∧ Pure1 P o a w v := by
  unfold Pure1
  cases hop : o.op with
  | move x =>
    simp only [aop, hop] at h
    obtain ⟨v, hq, hr⟩ := evK_sound r h
    exact ⟨v, _, hq, hr, fun w' _ => by simp [execOp, hop]⟩
  | pick c x y =>
    simp only [aop, hop] at h
    obtain ⟨l, hq, hr⟩ := evL_sound r h
    cases l with
    | bool d =>
      have hcv : a.eval c = .bool d := hr
      cases d with
      | true =>
        obtain ⟨v, hq, hr⟩ := evK_sound r hq
        exact ⟨v, _, hq, hr, fun w' _ => by simp [execOp, hop, hcv, asBool]⟩
      | false =>
        obtain ⟨v, hq, hr⟩ := evK_sound r hq
        exact ⟨v, _, hq, hr, fun w' _ => by simp [execOp, hop, hcv, asBool]⟩
    | _ => exact hq.elim
  | load t p =>
    simp only [aop, hop] at h
    obtain ⟨l, hq, hr⟩ := evL_sound r h
    obtain ⟨x, u, hq, hx, hrun⟩ := loadK_sound hT r.h hq hr
    exact ⟨.v x, u, hq, hx, fun w' hw => by simp [execOp, hop, hrun w' (hw (by simp [isLoad, clsOf, hop]))]⟩
  | binOp b t x y yt =>
    simp only [aop, hop] at h
    obtain ⟨l1, hq, h1⟩ := evL_sound r h
    obtain ⟨l2, hq, h2⟩ := evL_sound r hq
    obtain ⟨l, z, hq, hz, hrun⟩ := binK_sound hT hq h1 h2
    refine ⟨_, z, hq, RelV1.of hz, fun w' _ => ?_⟩
    have := hrun w' x y
    simp only [execOp, hop]
    rw [Sem.run_bind, this]
    simp
  | unOp u t x =>
    cases u with
    | not =>
      simp only [aop, hop] at h
      obtain ⟨l, hq, hr⟩ := evL_sound r h
      cases l with
      | bool b =>
        have hcv : a.eval x = .bool b := hr
        exact ⟨_, .bool (!b), hq, rfl, fun w' _ => by simp [execOp, hop, hcv, Op.unary]⟩
      | _ => exact hq.elim
    | _ => simp only [aop, hop] at h
  | extract x j =>
    simp only [aop, hop] at h
    obtain ⟨v, hq, hr⟩ := evK_sound r h
    cases v with
    | tup xs =>
      obtain ⟨y, hy, hq⟩ := getK_iff hq
      obtain ⟨vs, hvs, hall⟩ := hr
      obtain ⟨u, hu, hur⟩ := hall.get hy
      have hu' : vs[j]? = some u := by simpa using hu
      exact ⟨_, u, hq, hur, fun w' _ => by simp [execOp, hop, hvs, Instr.extract, hu']⟩
    | v _ => exact hq.elim
  | fieldAddr t p j =>
    simp only [aop, hop] at h
    obtain ⟨l, hq, hr⟩ := evL_sound r h
    obtain ⟨i, hi, hq⟩ := someK_iff hq
    obtain ⟨hl0, hq⟩ := ifK_iff hq
    obtain ⟨x, hx, hq⟩ := getK_iff hq
    obtain ⟨pi, d, z, f⟩ := ti_facts hT hi
    have key : ∀ g off, a.eval p = .pointer (some ⟨g, off, none⟩) → ∀ w' : World, (execOp a.eval o).run P w' = .ok (.value (.pointer (some ⟨g, off + x.1, none⟩))) w' := by
      rintro g off hv w'
      obtain ⟨fs, hd⟩ := struct_of f hx hl0
      obtain ⟨fl, ti, dd, h1, h2, h3, h4, h5, _⟩ := field_facts f hd hx
      have hu := f.und
      rw [hd] at hu
      have hne : ti.size ≠ 0 := by omega
      simp [execOp, hop, Instr.fieldAt, run_underlying hu, h1, hv, Instr.sureAddr, fieldPlace, run_sizeOf h4, hne, Addr.add_lit, h2]
    cases l with
    | ptr id off =>
      obtain ⟨g, h1, h2⟩ := hr
      exact ⟨_, _, hq, ⟨g, h1, rfl⟩, fun w' _ => key g off h2 w'⟩
    | ept id n sz off =>
      obtain ⟨g, o0, m, c, h1, h2, h3, h4⟩ := hr
      exact ⟨_, _, hq, ⟨g, o0, m, c, h1, h2, h3, by rw [← Nat.add_assoc]⟩, fun w' _ => key g _ h4 w'⟩
    | rp k y off =>
      obtain ⟨g, ob, cur, e, fr, h1, h2⟩ := hr
      exact ⟨_, _, hq, ⟨g, ob, cur, e, fr, by rw [← Nat.add_assoc], h2⟩, fun w' _ => key g _ h1 w'⟩
    | _ => exact hq.elim
  | field t x j =>
    simp only [aop, hop] at h
    obtain ⟨v, hq, hr⟩ := ev1_sound r h
    obtain ⟨i, hi, hq⟩ := someK_iff hq
    obtain ⟨hl0, hq⟩ := ifK_iff hq
    obtain ⟨y, hy, hq⟩ := getK_iff hq
    obtain ⟨pi, d, z, f⟩ := ti_facts hT hi
    obtain ⟨fs, hd⟩ := struct_of f hy hl0
    obtain ⟨fl, ti, dd, h1, h2, h3, h4, h5, h6, h7⟩ := field_facts f hd hy
    have hu := f.und
    rw [hd] at hu
    cases v with
    | agg cs =>
      obtain ⟨hle, hq⟩ := ifK_iff hq
      have hle := Nat.le_of_ble_eq_true hle
      obtain ⟨vs, hvs, hall⟩ := hr
      have hlen : cs.length = vs.size := by simpa using hall.length
      have hrun : ∀ w' : World, (execOp a.eval o).run P w' = .ok (.value (rdV (aggOf dd) ti.size (vs.toList.drop y.1))) w' := by
        intro w'
        have := run_part_at (P := P) h4 h6 (w := w') (cs := vs) (off := fl.offset) (fun _ => by omega)
        rw [h2] at this
        simp [execOp, hop, Instr.field, run_underlying hu, h1, hvs, asAgg, this, h2]
      have hdr := hall.drop y.1
      cases hag : y.2.2 with
      | true =>
        rw [hag] at hq
        refine ⟨_, _, hq, ?_, fun w' _ => hrun w'⟩
        rw [h7, hag, h5]
        refine ⟨_, rfl, ?_⟩
        simpa [cutL] using hdr.take y.2.1
      | false =>
        rw [hag] at hq
        refine (?_ : _)
        cases hcd : cs.drop y.1 with
        | nil => rw [hcd] at hq; exact hq.elim
        | cons c cs' =>
          rw [hcd] at hq hdr
          cases hud : vs.toList.drop y.1 with
          | nil => rw [hud] at hdr; exact hdr.elim
          | cons u us =>
            rw [hud] at hdr
            refine ⟨_, _, hq, ?_, fun w' _ => hrun w'⟩
            rw [h7, hag, hud]
            exact RelV1.of hdr.1
    | one _ => exact hq.elim
  | indexAddr t s x =>
    simp only [aop, hop] at h
    obtain ⟨l, hq, hr⟩ := evL_sound r h
    obtain ⟨ik, n, hq, hx⟩ := evI_sound r hq
    have key : ∀ e (ie : TypeInfo) g off m c, P.underlying t = some (.slice e) → P.info? e = some ie → a.eval s = .slice (some ⟨g, off, none⟩) m c → bound n m →
        ∀ w' : World, (execOp a.eval o).run P w' = .ok (.value (.pointer (some ⟨g, off + n.toNat * ie.size, none⟩))) w' := by
      intro e ie g off m c hu hie hs hb w'
      simp [execOp, hop, Instr.indexAt, hx, asIntOf, run_underlying hu, hs, hb.1, hb.2, run_sizeOf hie, Addr.add_lit]
    cases l with
    | sl e k l =>
      obtain ⟨⟨e', k'⟩, hek, hq⟩ := someK_iff hq
      obtain ⟨hsz, hb, hq⟩ := ifK_iff hq
      have hsz := Nat.eq_of_beq_eq_true hsz
      obtain ⟨ie, z, hu, hie, hsi, _⟩ := skind_facts hT hek
      have hlt : n.toNat < l.length := by have := hb.1; have := hb.2; omega
      rcases hr with ⟨rfl, _⟩ | ⟨g, off, cap, cur, tg, fr, hv, hok, hg, hc, hf, hrow⟩
      · simp at hlt
      · have hget : l[n.toNat]? = some (getE k l n) := by simp [getE, List.getD, List.getElem?_eq_getElem hlt]
        have hx := hrow.get hget
        have hmul : n.toNat * k.sz + k.sz ≤ l.length * k.sz := by
          have : (n.toNat + 1) * k.sz ≤ l.length * k.sz := Nat.mul_le_mul_right _ hlt
          rw [Nat.add_mul, Nat.one_mul] at this; exact this
        refine ⟨_, _, hq, ⟨g, off + n.toNat * k.sz, cur, tg, fr, rfl, hok, hg, by omega, ?_⟩, fun w' _ => ?_⟩
        · have e2 : List.take k.sz (List.drop (n.toNat * k.sz) (List.take (l.length * k.sz) (List.drop off cur.toList))) = (cur.toList.drop (off + n.toNat * k.sz)).take k.sz := by
            rw [List.drop_take, List.drop_drop, List.take_take]
            congr 1
            omega
          rw [e2] at hx
          exact hx
        · have := key e' ie g off l.length cap hu hie hv hb w'
          rw [this, hsi]
          simp only at hsz
          rw [hsz]
          rfl
    | own id =>
      obtain ⟨ob, ho, hq⟩ := getK_iff hq
      obtain ⟨b, hb', hro⟩ := r.h.obj ho
      cases ob with
      | row e k l =>
        obtain ⟨⟨e', k'⟩, hek, hq⟩ := someK_iff hq
        obtain ⟨hsz, hb, hq⟩ := ifK_iff hq
        have hsz := Nat.eq_of_beq_eq_true hsz
        obtain ⟨ie, z, hu, hie, hsi, _⟩ := skind_facts hT hek
        obtain ⟨h1, _⟩ := hr
        rw [hb'] at h1
        obtain rfl : b = a.eval s := by cases h1; rfl
        obtain ⟨xs, hown, hrow⟩ := hro
        rcases hown.2 with ⟨_, hn⟩ | ⟨g, o0, cap, cur, hv, hg, hnc, _⟩
        · have := hb.1; have := hb.2; omega
        · refine ⟨_, _, hq, ⟨g, o0, l.length, cap, by rw [hb', hv], hb.1, hb.2, rfl⟩, fun w' _ => ?_⟩
          have := key e' ie g o0 l.length cap hu hie hv hb w'
          rw [this, hsi]
          simp only at hsz
          rw [hsz, Nat.add_zero]
      | _ => exact hq.elim
    | ptr id off =>
      obtain ⟨i, hi, hq⟩ := someK_iff hq
      obtain ⟨ie, hie, hq⟩ := someK_iff hq
      obtain ⟨hb, hq⟩ := hq
      have hb1 := hb.1
      have hb2 := hb.2
      have hm : n.toNat < i.len := by omega
      have hq := idxB_sound hq n.toNat (Nat.zero_le _) (by omega) (by omega)
      obtain ⟨pi, d, z, f⟩ := ti_facts hT hi
      obtain ⟨pe, de, ze, fe⟩ := ti_facts hT hie
      obtain ⟨len, e, hd⟩ := array_len f (by omega)
      obtain ⟨h1, h2, _⟩ := array_of f hd
      have hu := f.und
      rw [hd] at hu
      obtain ⟨g, hb, hv⟩ := hr
      refine ⟨_, .pointer (some ⟨g, off + n.toNat * ie.zero.length, none⟩), hq, ⟨g, hb, rfl⟩, fun w' _ => ?_⟩
      have he : P.info? e = some pe := by rw [← h2]; exact fe.info
      have hlt : n < (len : Int) := by omega
      simp [execOp, hop, Instr.indexAt, hx, asIntOf, run_underlying hu, hv, Instr.sureAddr, hb1, hlt, run_sizeOf he, Addr.add_lit, fe.size]
    | _ => exact hq.elim
  | index t x y =>
    simp only [aop, hop] at h
    obtain ⟨v, hq, hr⟩ := ev1_sound r h
    obtain ⟨ik, n, hq, hx⟩ := evI_sound r hq
    obtain ⟨i, hi, hq⟩ := someK_iff hq
    cases v with
    | one l =>
      cases l with
      | str s =>
        obtain ⟨hs, hb, hq⟩ := ifK_iff hq
        have hu := isStrT_spec hT hs
        have hv : a.eval x = .string s := hr
        have hlt : n.toNat < s.size := by have := hb.1; have := hb.2; omega
        refine ⟨_, .int .u8 (byteAt s n.toNat), hq, rfl, fun w' _ => ?_⟩
        have := run_index_string (P := P) w' t s ik n hu
        rw [dif_pos ⟨hb.1, hb.2⟩] at this
        simp [execOp, hop, hv, hx, this, byteAt_eq hlt]
      | _ => exact hq.elim
    | agg cs =>
      obtain ⟨ie, hie, hq⟩ := someK_iff hq
      obtain ⟨hlen, hb, hq⟩ := ifK_iff hq
      have hlen : cs.length = i.len * ie.zero.length := by simpa using hlen
      obtain ⟨pi, d, z, f⟩ := ti_facts hT hi
      obtain ⟨pe, de, ze, fe⟩ := ti_facts hT hie
      have hb1 := hb.1
      have hb2 := hb.2
      have hlt : n.toNat < i.len := by omega
      obtain ⟨len, e, hd⟩ := array_len f (by omega)
      obtain ⟨h1, h2, _⟩ := array_of f hd
      have hu := f.und
      rw [hd] at hu
      have he : P.info? e = some pe := by rw [← h2]; exact fe.info
      have hue : P.underlying e = some de := by rw [← h2]; exact fe.und
      obtain ⟨vs, hvs, hall⟩ := hr
      have hvl : cs.length = vs.size := by simpa using hall.length
      have hq := idxB_sound hq n.toNat (Nat.zero_le _) (by omega) (by omega)
      have hmul : n.toNat * ie.zero.length + ie.zero.length ≤ vs.size := by
        have : (n.toNat + 1) * ie.zero.length ≤ i.len * ie.zero.length := Nat.mul_le_mul_right _ hlt
        rw [Nat.add_mul, Nat.one_mul] at this
        omega
      have hrun : ∀ w' : World, (execOp a.eval o).run P w' = .ok (.value (rdV ie.agg ie.zero.length (vs.toList.drop (n.toNat * ie.zero.length)))) w' := by
        intro w'
        have := run_part_at (P := P) he hue (w := w') (cs := vs) (off := n.toNat * pe.size) (fun hf => by
          have hs := fe.size1 hf
          have := fe.size
          rw [hs] at this hmul
          rw [this]; omega)
        rw [fe.size, fe.agg] at this
        have hn2 : n < (len : Int) := by omega
        simp [execOp, hop, Instr.index, hx, asIntOf, run_underlying hu, hvs, hb1, hn2, run_sizeOf he, fe.size, this]
      have hdr := hall.drop (n.toNat * ie.zero.length)
      cases hag : ie.agg with
      | true =>
        rw [hag] at hq hrun
        refine ⟨_, _, hq, ?_, fun w' _ => hrun w'⟩
        refine ⟨_, rfl, ?_⟩
        simpa [cutL] using hdr.take ie.zero.length
      | false =>
        rw [hag] at hq hrun
        cases hcd : cs.drop (n.toNat * ie.zero.length) with
        | nil => rw [hcd] at hq; exact hq.elim
        | cons c cs' =>
          rw [hcd] at hq hdr
          cases hud : vs.toList.drop (n.toNat * ie.zero.length) with
          | nil => rw [hud] at hdr; exact hdr.elim
          | cons u us =>
            rw [hud] at hdr hrun
            exact ⟨_, _, hq, RelV1.of hdr.1, fun w' _ => hrun w'⟩
  | build t ps =>
    simp only [aop, hop] at h
    obtain ⟨i, hi, hq⟩ := someK_iff h
    obtain ⟨vs, hq, hall⟩ := partsK_sound r hq
    obtain ⟨cs, hcs, hq⟩ := someK_iff hq
    obtain ⟨hag, hq⟩ := ifK_iff hq
    obtain ⟨pi, d, z, f⟩ := ti_facts hT hi
    obtain ⟨us, hb, hr⟩ := built_sound f hcs hall (by rw [f.agg]; exact hag)
    refine ⟨_, .agg us, hq, ⟨us, rfl, hr⟩, fun w' _ => ?_⟩
    have hpt : (ps.map fun (x : Nat × Operand) => (x.1, a.eval x.2)).toList = ps.toList.map fun p => (p.1, a.eval p.2) := by simp
    have := run_build (P := P) w' t (ps.map fun (x : Nat × Operand) => (x.1, a.eval x.2)) us (by rw [hpt]; exact hb)
    simp only [execOp, hop]
    rw [Sem.run_bind]
    have e : (ps.map fun (x : Nat × Operand) => match x with | (i, x) => (i, a.eval x)) = ps.map fun (x : Nat × Operand) => (x.1, a.eval x.2) := rfl
    rw [e, this]
    rfl
  | slice t x lo hi mx =>
    cases mx with
    | some _ => simp only [aop, hop] at h
    | none =>
      have hne : ∀ c, ¬ (lo = some (.const c) ∧ hi = none) := by
        rintro c ⟨rfl, rfl⟩
        simp [isAct, clsOf, hop] at hc
      have h : sliceK T st t x lo hi K := by
        rcases lo with _ | lo
        · simpa only [aop, hop] using h
        · cases lo with
          | const c =>
            rcases hi with _ | hi
            · exact absurd ⟨rfl, rfl⟩ (hne c)
            · simpa only [aop, hop] using h
          | _ => simpa only [aop, hop] using h
      unfold sliceK at h
      obtain ⟨l, hq, hr⟩ := evL_sound r h
      cases l with
      | sl e k l =>
        obtain ⟨⟨e', k'⟩, hek, hq⟩ := someK_iff hq
        obtain ⟨hsz, hq⟩ := ifK_iff hq
        have hsz := Nat.eq_of_beq_eq_true hsz
        obtain ⟨ie, z, hu, hie, hsi, _⟩ := skind_facts hT hek
        obtain ⟨A, hq, hA⟩ := optI_sound r hq
        obtain ⟨B, hq, hB⟩ := optI_sound r hq
        obtain ⟨⟨h0, h1, h2⟩, hq⟩ := hq
        have hrun : ∀ (ad : Option Addr) (cap : Nat), a.eval x = .slice ad l.length cap → l.length ≤ cap → ∀ w' : World,
            (execOp a.eval o).run P w' = .ok (.value (.slice (if cap = A.toNat then ad else ad.map (·.add (A.toNat * ie.size))) (B.toNat - A.toNat) (cap - A.toNat))) w' := by
          intro ad cap hv hc w'
          have hB0 : 0 ≤ B := Int.le_trans h0 h1
          obtain ⟨b, rfl⟩ := Int.eq_ofNat_of_zero_le hB0
          obtain ⟨d, rfl⟩ := Int.eq_ofNat_of_zero_le h0
          have hbb : (b : Int) ≤ (cap : Int) := by omega
          have hbn : b ≤ cap := by omega
          have hdb : d ≤ b := by omega
          have hdl : d ≤ l.length := by omega
          rcases hA with ⟨rfl, hA⟩ | ⟨y, k2, rfl, hy⟩ <;> rcases hB with ⟨rfl, hB⟩ | ⟨y2, k3, rfl, hy2⟩
          · have hz1 : b = l.length := by omega
            have hz2 : d = 0 := by omega
            subst hz1; subst hz2
            simp [execOp, hop, Instr.sliceAt, run_underlying hu, Instr.slice, hv, Instr.sliceBounds, run_sizeOf hie]
          · have hz2 : d = 0 := by omega
            subst hz2
            simp [execOp, hop, Instr.sliceAt, run_underlying hu, Instr.slice, hv, Instr.sliceBounds, Instr.sliceBound, hy2, asIntOf, hbn, run_sizeOf hie]
          · have hz1 : b = l.length := by omega
            subst hz1
            simp [execOp, hop, Instr.sliceAt, run_underlying hu, Instr.slice, hv, Instr.sliceBounds, Instr.sliceBound, hy, asIntOf, hdl, run_sizeOf hie]
          · simp [execOp, hop, Instr.sliceAt, run_underlying hu, Instr.slice, hv, Instr.sliceBounds, Instr.sliceBound, hy, hy2, asIntOf, hbn, hdb, run_sizeOf hie]
        have hab : ((l.take B.toNat).drop A.toNat).length = B.toNat - A.toNat := by
          rw [List.length_drop, List.length_take]; omega
        rcases hr with ⟨rfl, a0, hv⟩ | ⟨g, off, cap, cur, tg, fr, hv, hok, hg, hc, hf, hrow⟩
        · have hA0 : A.toNat = 0 := by simp at h2; omega
          have hB0 : B.toNat = 0 := by simp at h2; omega
          refine ⟨_, _, hq, ?_, fun w' _ => hrun a0 0 (by simpa using hv) (by simp) w'⟩
          rw [hA0, hB0]
          exact .inl ⟨by simp, by simp⟩
        · refine ⟨_, _, hq, ?_, fun w' _ => hrun _ cap hv hc w'⟩
          have hrow2 := (hrow.take B.toNat).drop A.toNat
          have hmul : A.toNat * k.sz + (B.toNat - A.toNat) * k.sz = B.toNat * k.sz := by rw [← Nat.add_mul]; congr 1; omega
          have hmul2 : B.toNat * k.sz ≤ l.length * k.sz := Nat.mul_le_mul_right _ (by omega)
          by_cases hcap : cap = A.toNat
          · rw [if_pos hcap]
            have hz : B.toNat - A.toNat = 0 := by omega
            refine .inr ⟨g, off, cap - A.toNat, cur, tg, fr, by rw [hab], hok, hg, by rw [hab]; omega, by rw [hab, hz]; omega, ?_⟩
            have hnil : (l.take B.toNat).drop A.toNat = [] := List.eq_nil_of_length_eq_zero (by rw [hab]; exact hz)
            rw [hnil]
            simp [RdRow]
          · rw [if_neg hcap]
            simp only [Option.map_some, Addr.add_lit]
            refine .inr ⟨g, off + A.toNat * ie.size, cap - A.toNat, cur, tg, fr, by rw [hab], hok, hg, by rw [hab]; omega, ?_, ?_⟩
            · rw [hab, hsi]
              simp only at hsz
              rw [hsz]
              omega
            · rw [hab, hsi]
              simp only at hsz
              rw [hsz]
              have e3 : List.drop (A.toNat * k.sz) (List.take (B.toNat * k.sz) (List.take (l.length * k.sz) (List.drop off cur.toList))) =
                  List.take ((B.toNat - A.toNat) * k.sz) (List.drop (off + A.toNat * k.sz) cur.toList) := by
                rw [List.take_take, List.drop_take, List.drop_drop, Nat.min_eq_left hmul2]
                congr 1
                omega
              rw [e3] at hrow2
              exact hrow2
      | _ => exact hq.elim
  | makeFunc fn first caps =>
    cases fn with
    | func fid =>
      simp only [aop, hop] at h
      obtain ⟨h0, hq⟩ := ifK_iff h
      have h0 : first = #[] := by
        have : first.size = 0 := by simpa using h0
        exact Array.size_eq_zero_iff.1 this
      obtain ⟨cs, hcs, hq⟩ := someK_iff hq
      refine ⟨_, .func (.func fid) #[] (caps.map a.eval), hq, ⟨caps.map a.eval, rfl, ?_⟩, fun w' _ => by simp [execOp, hop, Instr.makeFunc, h0]⟩
      rw [Array.toList_map]
      have hm := mapM_all2 hcs
      have : ∀ {cs : List Cap} {os : List Operand}, All2 (fun b a => (match a with
          | .tmp t => match st.slots[t]? with
            | some (.v (.one (.ptr id 0))) => some (Cap.id id)
            | some (.v (.one (.rp k x 0))) => some (Cap.imm k x)
            | _ => none
          | _ => none) = some b) cs os → All2 (RelCap w Ok β) cs (os.map a.eval) := by
        intro cs
        induction cs with
        | nil => intro os h; cases os with
          | nil => trivial
          | cons _ _ => exact h.elim
        | cons c cs ih =>
          intro os h
          cases os with
          | nil => exact h.elim
          | cons ob os =>
            refine ⟨?_, ih h.2⟩
            have h1 := h.1
            cases ob with
            | tmp t =>
              simp only at h1
              split at h1
              · rename_i id hs
                cases h1
                obtain ⟨b, hb, hr⟩ := r.s.get hs
                have hb' : a.tmps[t]? = some b := by simpa using hb
                have : a.eval (.tmp t) = b := by show a.tmps.getD t undef = b; simp [hb']
                rw [this]; exact hr
              · rename_i k y hs
                cases h1
                obtain ⟨b, hb, hr⟩ := r.s.get hs
                have hb' : a.tmps[t]? = some b := by simpa using hb
                have : a.eval (.tmp t) = b := by show a.tmps.getD t undef = b; simp [hb']
                rw [this]; exact hr
              · cases h1
            | _ => cases h1
      exact this hm
    | _ => simp only [aop, hop] at h
  | call c =>
    have hlen : c.callee = .builtin .len := by
      simp only [isAct, clsOf, hop] at hc
      cases hcc : c.callee with
      | builtin b => cases b <;> simp [hcc] at hc <;> rfl
      | _ => simp [hcc] at hc
    simp only [aop, hop, hlen] at h
    split at h
    · rename_i x t ts hxa hta
      obtain ⟨l, hq, hr⟩ := evL_sound r h
      obtain ⟨hty, hq⟩ := ifK_iff hq
      obtain ⟨n, hn, hq⟩ := someK_iff hq
      have harg : c.args = #[x] := by
        apply Array.ext'; rw [hxa]
      have hargt : c.argTypes[0]? = some t := by
        rw [← Array.getElem?_toList, hta]; rfl
      have key : ∀ (m : Nat), (m : Int) = n → ((∃ e, P.underlying t = some (.slice e) ∧ ∃ ad cp, a.eval x = .slice ad m cp) ∨ (P.underlying t = some .string ∧ ∃ s, a.eval x = .string s ∧ s.size = m)) →
          ∀ w' : World, (execOp a.eval o).run P w' = .ok (.value (.int .i64 n)) w' := by
        rintro m rfl (⟨e, hu, ad, cp, hv⟩ | ⟨hu, s, hv, rfl⟩) w'
        · simp [execOp, hop, resolve, hlen, harg, invoke, builtin, Builtin.len_, hargt, run_underlying hu, hv, goInt]
        · simp [execOp, hop, resolve, hlen, harg, invoke, builtin, Builtin.len_, hargt, run_underlying hu, hv, goInt]
      refine ⟨_, .int .i64 n, hq, rfl, fun w' _ => ?_⟩
      have slT : (skind T t).isSome = true → ∃ e, P.underlying t = some (.slice e) := by
        intro hs
        obtain ⟨⟨e', k'⟩, hek⟩ := Option.isSome_iff_exists.1 hs
        obtain ⟨ie, z, hu, _⟩ := skind_facts hT hek
        exact ⟨e', hu⟩
      cases l with
      | sl e k l =>
        obtain ⟨e', hu⟩ := slT hty
        simp only [lenOf, Option.some.injEq] at hn
        rcases hr with ⟨rfl, a0, hv⟩ | ⟨g, off, cap, cur, tg, fr, hv, _⟩
        · exact key 0 (by simpa using hn) (.inl ⟨e', hu, _, _, hv⟩) w'
        · exact key l.length hn (.inl ⟨e', hu, _, _, hv⟩) w'
      | nils =>
        obtain ⟨e', hu⟩ := slT hty
        simp only [lenOf, Option.some.injEq] at hn
        exact key 0 (by simpa using hn) (.inl ⟨e', hu, _, _, hr⟩) w'
      | own id =>
        obtain ⟨e', hu⟩ := slT hty
        simp only [lenOf] at hn
        split at hn
        · rename_i e k l ho
          simp only [Option.some.injEq] at hn
          obtain ⟨b, hb', hro⟩ := r.h.obj ho
          obtain ⟨h1, _⟩ := hr
          rw [hb'] at h1
          obtain rfl : b = a.eval x := by cases h1; rfl
          obtain ⟨ad, cp, hv⟩ := hro.row_val
          exact key l.length hn (.inl ⟨e', hu, _, _, hv⟩) w'
        · cases hn
      | str s =>
        simp only [lenOf, Option.some.injEq] at hn
        have hu : P.underlying t = some .string := by
          simp only [lenTy] at hty
          split at hty
          · rename_i i hi
            split at hty
            · rename_i hk
              obtain ⟨pi, d, z, f⟩ := ti_facts hT hi
              have := f.kd
              rw [hk] at this
              rw [f.und]
              cases d <;> simp [kdOk] at this
              rfl
            · cases hty
          · cases hty
        exact key s.size hn (.inr ⟨hu, s, hr, rfl⟩) w'
      | _ => simp [lenOf] at hn
    · exact h.elim
  | _ => first | (simp [isAct, clsOf, hop] at hc; done) | (simp [aop, hop] at h; done)
end
end Go.AM
