/- The scan of a ladder: its spec. Conditions: none. -/
import Derived.Test.YtlfelhdcokadbaaC2
import Derived.RangeFuncNested
set_option linter.all false
namespace Go.AM
open Go.RowKit Go.Proofs
noncomputable def rid10 : Nat := match Code.a (Code.a z11) with | .region i _ _ => i | _ => 0
noncomputable def ops10 : Array Oper := match Code.a (Code.a z11) with | .region _ ops _ => ops | _ => #[]
theorem r10_eq : Code.a (Code.a z11) = .region rid10 ops10 false := by kernel_rfl
noncomputable def o62 : Oper := (ops10.toList[1]?).getD default
theorem ops10_eq : ops10.toList = ops10.toList.take 1 ++ (o62 :: []) := by kernel_rfl
theorem o62_guard : o62.guard = none := by kernel_rfl
theorem o62_dst : o62.dst = some 62 := by kernel_rfl
noncomputable def call62 : Call := match o62.op with | .call c => c | _ => default
theorem o62_op : o62.op = .call call62 := by kernel_rfl
theorem call62_callee : call62.callee = .value (.func 26) := by kernel_rfl
theorem call62_args : call62.args = #[.tmp 61, .tmp 14] := by kernel_rfl
theorem spec26 : SpecOk Try.prog 26 (afun tt [] [] Try.f26) := afun_sound tt_ok EnvOk.nil mixed Try.func26
theorem body11 : Try.f11.body = some c11 := by kernel_rfl
theorem body41 : Try.f41.body = some c41 := by kernel_rfl
theorem load61_eq (Q : St → Prop) (l : Lad) (inp : List Bool) (st0 : Sta) (bases : List Int) (s : Sta) (on : Bool) (did : List Bool) :
    Q (sp 88 (sl11 ++ [(61, .v (nfK k23 l))]) (hp11 l inp st0 bases s on did)) = opsK tt E11 ops10.toList (ops10.toList.take 1) (sp 88 sl11 (hp11 l inp st0 bases s on did)) Q := by kernel_rfl
def keep62 : List Nat := [3, 4, 5, 6, 7, 8, 11, 12, 13, 14, 62]
def L62 : List Nat := [0, 1, 2, 3, 4, 5, 6, 7, 8, 9, 10, 12, 13]
theorem mid62_eq (Q : St → Prop) (u : List Value) (l : Lad) (inp : List Bool) (st0 : Sta) (bases : List Int) (s : Sta) (on : Bool) (did : List Bool) :
    Q (sp 88 (sl11 ++ [(62, .v (.one (.clo 41 [.id 11, .id 12])))]) (hp11 l inp st0 bases s on did ++ [.box 24 (leaves k23 l), .box 64 [.ptr 9 0]])) =
    dropK keep62 L62 (putS ⟨spl 88 0 (sl11 ++ [(61, .v (nfK k23 l))]), hp11 l inp st0 bases s on did ++ [.frame u (spl 88 0 (sl11 ++ [(61, .v (nfK k23 l))]))] ++ [.box 24 (leaves k23 l), .box 64 [.ptr 9 0]]⟩ (some 62) (.v (.one (.clo 41 [.id 12, .id 13])))) Q := by kernel_rfl
theorem start41_eq (Q : Ex → St → Prop) (u : List Value) (g l' : Nat) (oD oL : Obj) (l : Lad) (inp : List Bool) (st0 : Sta) (bases : List Int) (s : Sta) (on : Bool) (did : List Bool) :
    (Q .normal (st41 u g l' oD oL l inp st0 bases s on did 0)) = awp tt E41 [] (Code.a c41) 0 (sp 34 [(0, .v (.one (.yld l'))), (1, .v (.one (.ptr 11 0))), (2, .v (.one (.ptr 12 0)))] (base41 u g l' oD oL l inp st0 bases s on did)) Q := by kernel_rfl
abbrev ks11 : List K := [k26, kbs, ki]
theorem res_bad (Q : QT) (e : Int) : Q [nfK k26 zeroS, .one (.sl 4 .bool []), .one (.int .i64 e)] [] = resK tt (sr11 e) Try.f11.results.toList fun vs => exportK 0 (sr11 e) vs (SQ ks11 Q) := by kernel_rfl
theorem res_bad2 (Q : QT) (u : List Value) (g l' : Nat) (oD oL : Obj) (l : Lad) (inp : List Bool) (st0 : Sta) (e : Int) (bases : List Int) (s : Sta) (on : Bool) (did : List Bool) :
    Q [nfK k26 zeroS, .one (.sl 4 .bool []), .one (.int .i64 e)] [] =
    resK tt (sp 88 (sl11 ++ [(62, .v (.one (.clo 41 [.id 11, .id 12])))]) (hpG l inp st0 [.nils, .nils, .nils] [.nils] [.int .i64 e] bases s on did ++ mo41 u g l' oD oL l)) Try.f11.results.toList fun vs =>
      exportK 0 (sp 88 (sl11 ++ [(62, .v (.one (.clo 41 [.id 11, .id 12])))]) (hpG l inp st0 [.nils, .nils, .nils] [.nils] [.int .i64 e] bases s on did ++ mo41 u g l' oD oL l)) vs (SQ ks11 Q) := by kernel_rfl
theorem res_good (Q : QT) (u : List Value) (g l' : Nat) (oD oL : Obj) (l : Lad) (inp : List Bool) (st0 : Sta) (bases : List Int) (s : Sta) (on : Bool) (did : List Bool) :
    Q [nfK k26 s, .one (.sl 4 .bool did), .one (.int .i64 0)] [] =
    resK tt (sp 88 sk11 (hpG l inp st0 (leaves k26 s) [.own 10] [.int .i64 0] bases s on did ++ mo41 u g l' oD oL l)) Try.f11.results.toList fun vs =>
      exportK 0 (sp 88 sk11 (hpG l inp st0 (leaves k26 s) [.own 10] [.int .i64 0] bases s on did ++ mo41 u g l' oD oL l)) vs (SQ ks11 Q) := by kernel_rfl
theorem raw14_eq (u : List Value) (g l' : Nat) (oD oL oX : Obj) (l : Lad) (inp : List Bool) (st0 : Sta) (r1 r2 r3 : List Lf) (bases : List Int) (s : Sta) (on : Bool) (did : List Bool) (sl : List (Nat × V)) (n : Nat) :
    setOb 14 (.raw g oX) (sp n sl (hpG l inp st0 r1 r2 r3 bases s on did ++ mo41 u g l' oD oL l)) = sp n sl (hpG l inp st0 r1 r2 r3 bases s on did ++ mo41 u g l' oX oL l) := by kernel_rfl
theorem raw15_eq (u : List Value) (g l' : Nat) (oD oL oX : Obj) (l : Lad) (inp : List Bool) (st0 : Sta) (r1 r2 r3 : List Lf) (bases : List Int) (s : Sta) (on : Bool) (did : List Bool) (cs : List V) :
    setOb 15 (.raw l' oX) ⟨cs, hpG l inp st0 r1 r2 r3 bases s on did ++ mo41 u g l' oD oL l⟩ = ⟨cs, hpG l inp st0 r1 r2 r3 bases s on did ++ mo41 u g l' oD oX l⟩ := by kernel_rfl
theorem st41_heap (u : List Value) (g l' : Nat) (oD oL : Obj) (l : Lad) (inp : List Bool) (st0 : Sta) (bases : List Int) (s : Sta) (on : Bool) (did : List Bool) (i : Int) :
    (st41 u g l' oD oL l inp st0 bases s on did i).heap = hpG l inp st0 [.nils, .nils, .nils] [.nils] [.int .i64 0] bases s on did ++ mo41 u g l' oD oL l := by kernel_rfl
theorem stp_eq (u : List Value) (g l' : Nat) (oD oL : Obj) (l : Lad) (inp : List Bool) (st0 : Sta) (bases : List Int) (s : Sta) (on : Bool) (did : List Bool) :
    stp u g l' oD oL l inp st0 bases s on did = ⟨spl 88 0 (sl11 ++ [(62, .v (.one (.clo 41 [.id 11, .id 12])))]), hpG l inp st0 [.nils, .nils, .nils] [.nils] [.int .i64 0] bases s on did ++ mo41 u g l' oD oL l⟩ := by kernel_rfl
section
variable {w0 : World} {Ok0 : Nat → Prop} {Q : QT}
/-- What the scan hands back. -/
def R11 (w0 : World) (Ok0 : Nat → Prop) (Q : QT) : Ending → World → Prop := Ret w0 Ok0 [] (SQ ks11 Q)
theorem fin_ret {w : World} {Ok : Nat → Prop} {β : List Value} {st : St} {a : Act} (r : Rel (Held w0 []) Ok0 w0 w Ok β st a.tmps.toList) (h : resK tt st Try.f11.results.toList fun vs => exportK 0 st vs (SQ ks11 Q)) :
    ∃ v, (results Try.f11 a.tmps).run Try.prog w = .ok v w ∧ R11 w0 Ok0 Q (.returned v) w := by
  obtain ⟨vs, us, hq, hall, hrun⟩ := resK_sound tt_ok r.s h
  obtain ⟨res, h', β', hk', hrv, hrel⟩ := exportK_sound r hall hq
  refine ⟨_, results_run hrun, res, h', Ok, β', hk', ?_, hrel⟩
  cases res with
  | nil => trivial
  | cons x xs => cases us with
    | nil => exact hrv.elim
    | cons u us => cases xs with
      | nil => cases us with
        | nil => exact hrv.1
        | cons _ _ => exact hrv.2.elim
      | cons y ys => cases us with
        | nil => exact hrv.2.elim
        | cons u2 us => exact ⟨_, rfl, hrv⟩
/-- The scan's way back: the block of its rounds' deferred calls is empty. -/
theorem fin_leave {n : Nat} {w : World} {Ok : Nat → Prop} {β : List Value} {a : Act} {sl : List (Nat × V)} {u : List Value} {g l' : Nat} {oL : Obj} {l : Lad} {inp : List Bool} {st0 : Sta} {r1 r2 r3 : List Lf} {bases : List Int} {s : Sta} {on : Bool} {did : List Bool}
    (hd : a.defers = [{ target := .collected g, args := #[] }])
    (r : Rel (Held w0 []) Ok0 w0 w Ok β (sp 88 sl (hpG l inp st0 r1 r2 r3 bases s on did ++ mo41 u g l' (.deferred (some [])) oL l)) a.tmps.toList)
    (h : resK tt (sp 88 sl (hpG l inp st0 r1 r2 r3 bases s on did ++ mo41 u g l' (.deferred none) oL l)) Try.f11.results.toList fun vs =>
      exportK 0 (sp 88 sl (hpG l inp st0 r1 r2 r3 bases s on did ++ mo41 u g l' (.deferred none) oL l)) vs (SQ ks11 Q)) :
    LeavesInM Fence.wide n Try.prog Try.f11 a.tmps (R11 w0 Ok0 Q) a.defers .returning w := by
  have hB : ∀ g, Held w0 [] g → g < w0.heap.size := fun g hg => hg.1
  have hw := (r.raw_get (i := 14) (g := g) (o := .deferred (some [])) rfl).1
  have r2 := r.raw_set hB (i := 14) (g := g) (o := .deferred (some [])) rfl (.deferred none)
  rw [raw14_eq] at r2
  rw [hd]
  exact ⟨by simp, .inl ⟨_, _, rfl, run_takeDeferred hw, fin_ret r2 h⟩⟩
end
/-- The scan, its results taken up as they lie. -/
def p11 : PT := fun args h K => h = [] ∧ ∃ l inp st Q, args = [nfK k23 l, nfK kbs inp, nfK k26 st] ∧ K = SQ ks11 Q ∧ F11 l inp st Q
theorem start11 (l : Lad) (inp : List Bool) (st : Sta) : (⟨[nfK k23 l, nfK kbs inp, nfK k26 st].map V.v ++ List.replicate 85 (.v (.one .undef)), []⟩ : St) = st11 l inp st := by kernel_rfl
theorem ntmps11 : Try.f11.ntmps = 88 := by kernel_rfl
theorem ntmps41 : Try.f41.ntmps = 34 := by kernel_rfl
end Go.AM
