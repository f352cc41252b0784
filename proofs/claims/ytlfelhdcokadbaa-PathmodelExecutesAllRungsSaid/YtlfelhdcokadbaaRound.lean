/- The abstract machine: code within a round of a loop over a function. Conditions: none. -/
import Derived.Test.YtlfelhdcokadbaaSpec
import Derived.OrdersIn
import Derived.TacticsIn
import Derived.RangeFuncNested
set_option linter.all false
namespace Go.AM
open Go.RowKit
def noDef (o : Oper) : Bool :=
  match o.op with
  | .defer _ => false
  | _ => true
theorem noDef_spec {o : Oper} (h : noDef o = true) : ∀ c, o.op ≠ .defer c := fun c e => by simp [noDef, e] at h
section
variable {P : Program} {T : TT} {E : Env} {w w' w0 : World} {B Ok0 Ok : Nat → Prop} {β : List Value} {l n : Nat}
theorem calls_round {f : FuncId} {args : Array Value} {R : Ending → World → Prop} (h : Calls P f args w R) : CallsIn (Fence.wide.inRound l) n P f args w R := CallsIn.inRound l (callsIn_wide.2 h)
theorem rows_round {row : String} {args : Array Value} {R : Value → World → Prop} (h : Rows P row args w R) : RowsIn (Fence.wide.inRound l) n P row args w R :=
  fun c cs _ => let ⟨v, w', r, s⟩ := h c cs; ⟨v, w', r, stepsIn_wide.2 s⟩
theorem op_round {o : Oper} {a : Act} {K : Act → World → Prop} {Q : Exit → Act → World → Prop} (h : o.wp P a w K Q) (hd : noDef o = true) : o.wpIn (Fence.wide.inRound l) n P a w K Q := by
  refine ⟨fun _ _ => trivial, ?_⟩
  have e : o.semAt (Fence.wide.inRound l).round a.eval = execOp a.eval o := Oper.semAt_some l _ _ (noDef_spec hd)
  rw [e]
  unfold Oper.wp at h
  generalize (execOp a.eval o).run P w = r at h
  cases r with
  | ok x w' =>
    cases x <;> simp only [Oper.upon, Oper.uponIn] at h ⊢ <;> first
      | exact h
      | exact ⟨fun h => by simp [Fence.wide, Fence.inRound] at h, calls_round h⟩
      | exact ⟨fun h => by simp [Fence.wide, Fence.inRound] at h, rows_round h⟩
      | exact h.elim
  | halt x w' => cases x <;> simp only [Oper.upon, Oper.uponIn] at h ⊢ <;> exact h
theorem list_round {ops : Array Oper} {Q : Exit → Act → World → Prop} (hQ : ¬ LetsOut Q) : ∀ (os : List Oper) {a : Act} {w : World}, os.all noDef = true → wpList P ops Q os a w → wpListIn (Fence.wide.inRound l) n P ops Q os a w
  | [], _, _, _, h => h
  | o :: os, a, w, hd, h => by
    simp only [List.all_cons, Bool.and_eq_true] at hd
    simp only [wpList] at h
    simp only [wpListIn]
    split
    · rename_i hw
      rw [if_pos hw] at h
      rcases h with h | h
      · exact op_round (Oper.wp_mono (fun a w h => list_round hQ os hd.2 h) h) hd.1
      · exact absurd h.2 hQ
    · rename_i hw
      rw [if_neg hw] at h
      exact ⟨fun _ _ => trivial, list_round hQ os hd.2 h⟩
theorem any_round {ops : Array Oper} {Q : Exit → Act → World → Prop} (hQ : ¬ LetsOut Q) (hd : ops.toList.all noDef = true) : ∀ (fuel : Nat) (listed : Array Bool) {a : Act} {w : World},
    wpAny P .any ops Q fuel listed a w → wpAnyIn (Fence.wide.inRound l) n P .any ops Q fuel listed a w
  | 0, _, _, _, h => h
  | fuel + 1, listed, a, w, h => by
    refine ⟨h.1, fun i hi => ?_⟩
    have h1 := h.2 i hi
    unfold wpOp at h1
    unfold wpOpIn
    cases ho : ops[i]? with
    | none => rw [ho] at h1; exact any_round hQ hd fuel _ h1
    | some o =>
      rw [ho] at h1
      have hdo : noDef o = true := List.all_eq_true.1 hd o (List.mem_of_getElem? (i := i) (by simpa using ho))
      dsimp only at h1 ⊢
      split
      · rename_i hw
        rw [if_pos hw] at h1
        rcases h1 with h1 | h1
        · exact op_round (Oper.wp_mono (fun a w h => any_round hQ hd fuel _ h) h1) hdo
        · exact absurd h1.2 hQ
      · rename_i hw
        rw [if_neg hw] at h1
        exact ⟨fun _ _ => trivial, any_round hQ hd fuel _ h1⟩
def roundB : Code → Bool
  | .skip => true
  | .region _ ops _ => ops.toList.all noDef
  | .seq a b => roundB a && roundB b
  | .cond _ a b => roundB a && roundB b
  | .block _ a => roundB a
  | .exit _ => true
  | .ret => true
  | _ => false
theorem not_out {ds : List Deferred} {Q : Ex → St → Prop} : ¬ LetsOut (PostX ds B Ok0 w0 Q) := fun ⟨_, _, h⟩ => h
theorem awpR_sound {ds : List Deferred} (hT : ttOk P T = true) (hE : EnvOk P E) (hm : P.follows .mixedOrders = true) (hB : ∀ g, B g → g < w0.heap.size) {A : Ann} : ∀ (code : Code) (c : Nat) {st : St} {a : Act} {w : World} {Ok : Nat → Prop} {β : List Value} {Q : Ex → St → Prop},
    roundB code = true → a.defers = ds → Rel B Ok0 w0 w Ok β st a.tmps.toList → awp T E A code c st Q → code.wpIn (Fence.wide.inRound l) n P (PostX ds B Ok0 w0 Q) a w := by
  intro code
  induction code with
  | skip => intro c st a w Ok β Q _ hd r h; exact wpIn_skip ⟨hd, st, Ok, β, h, r⟩
  | region id ops draw =>
    intro c st a w Ok β Q hb hd r h
    cases draw with
    | false => exact wpIn_region_list (list_round not_out _ hb (opsK_sound hT hE hB _ hd r h))
    | true =>
      obtain ⟨hsel, h2⟩ := ifK_iff h
      exact wpIn_region_any hm (any_round not_out hb _ _ (wpAny_of_T _ _ _ _ (ordK_sound hT hE hB hsel ops.size _ hd r.drew h2)))
  | seq x y ihx ihy =>
    intro c st a w Ok β Q hb hd r h
    simp only [roundB, Bool.and_eq_true] at hb
    refine wpIn_seq (wpIn_mono (ihx c hb.1 hd r h) fun e a' w' hq => ?_)
    cases e with
    | normal =>
      obtain ⟨hd', st', Ok', β', hq, r'⟩ := hq
      exact ihy c hb.2 hd' r' hq
    | exit id => exact hq
    | ret => exact hq
    | _ => exact hq.elim
  | cond t x y ihx ihy =>
    intro c st a w Ok β Q hb hd r h
    simp only [roundB, Bool.and_eq_true] at hb
    cases t with
    | tmp t =>
      obtain ⟨v, hv, h2⟩ := getK_iff h
      obtain ⟨b, hb', hr⟩ := r.s.s.get hv
      have he : a.eval (.tmp t) = b := by
        have hb' : a.tmps[t]? = some b := by simpa using hb'
        show a.tmps.getD t undef = b
        simp [hb']
      split at h2
      · rename_i d
        have hbv : b = .bool d := hr
        subst hbv
        cases d with
        | true =>
          simp only [brP, putK_eq] at h2
          exact wpIn_cond_true he (ihx c hb.1 hd (r.know hb' (av := .v (.one (.bool true))) rfl) h2)
        | false =>
          simp only [brP, putK_eq] at h2
          exact wpIn_cond_false he (ihy c hb.2 hd (r.know hb' (av := .v (.one (.bool false))) rfl) h2)
      · exact h2.elim
    | _ => exact h.elim
  | block id x ih =>
    intro c st a w Ok β Q hb hd r h
    refine wpIn_block (wpIn_mono (ih id hb hd r h) fun e a' w' hq => ?_)
    cases e with
    | normal => exact hq
    | exit i =>
      simp only [Exit.inBlock]
      obtain ⟨hd', st', Ok', β', hq, r'⟩ := hq
      simp only [blkC] at hq
      split
      · rename_i e; rw [if_pos e] at hq; exact ⟨hd', st', Ok', β', hq, r'⟩
      · rename_i e; rw [if_neg e] at hq; exact ⟨hd', st', Ok', β', hq, r'⟩
    | ret => exact hq
    | _ => exact hq.elim
  | exit id => intro c st a w Ok β Q _ hd r h; exact wpIn_exit ⟨hd, st, Ok, β, h, r⟩
  | ret => intro c st a w Ok β Q _ hd r h; exact wpIn_ret ⟨hd, st, Ok, β, h, r⟩
  | _ => intro c st a w Ok β Q hb hd r h; first | exact h.elim | (simp [roundB] at hb; done)
end
end Go.AM
