/- The scan of a ladder: what the parts of its code come to. Conditions: none. -/
import Derived.Test.YtlfelhdcokadbaaD3
import Derived.Test.YtlfelhdcokadbaaB11
import Derived.Test.YtlfelhdcokadbaaB10
import Derived.Test.YtlfelhdcokadbaaB8
import Derived.Test.YtlfelhdcokadbaaB15
set_option linter.all false
namespace Go.AM
open Go.Proofs
def hpG (l : Lad) (inp : List Bool) (st0 : Sta) (r1 r2 r3 : List Lf) (bases : List Int) (s : Sta) (on : Bool) (did : List Bool) : List Ob :=
  [.box 24 (leaves k23 l), .box 25 [.sl 4 .bool inp], .box 27 (leaves k26 st0), .box 27 r1, .box 25 r2, .box 32 r3, .box 40 [.sl 3 (.int .i64) bases], .box 27 (leaves k26 s), .box 25 [.own 10], .box 4 [.bool on], .row 4 .bool did]
def mo41 (u : List Value) (g l' : Nat) (oD oL : Obj) (l : Lad) : List Ob :=
  [.box 24 (leaves k23 l), .box 64 [.ptr 9 0], .frame u (spl 88 0 (sl11 ++ [(62, .v (.one (.clo 41 [.id 11, .id 12])))])), .raw g oD, .raw l' oL]
/-- The scan has found a fault: its result. -/
def sr11 (e : Int) : St := sp 88 [(6, .v (.one (.ptr 0 0))), (7, .v (.one (.ptr 1 0))), (8, .v (.one (.ptr 2 0)))] [.box 27 [.nils, .nils, .nils], .box 25 [.nils], .box 32 [.int .i64 e]]
theorem pre11_eq (Q : Ex → St → Prop) (l : Lad) (inp : List Bool) (st : Sta) :
    brP ((checkL l).2 != 0) (Q .ret (sr11 (checkL l).2)) ((l.rungs.length ≤ 1000 ∧ ∀ r ∈ l.rungs, (Rung.contacts r).length ≤ 1000000) ∧
      brP ((inp.length : Int) != l.1) (Q .ret (sr11 2)) (bound (l.rungs.length : Int) (basesFrom 0 l.rungs).length ∧
        brP (!fits (l.1, l.2.1, l.2.2.1, getE (.int .i64) (basesFrom 0 l.rungs) (l.rungs.length : Int)) st) (Q .ret (sr11 2)) (small st ∧
          ((0 : Int) ≤ (l.rungs.length : Int) ∧ (l.rungs.length : Int) ≤ (l.rungs.length : Int) ∧ (l.rungs.length : Int) ≤ 17592186044416) ∧ room tt 4 (Int.toNat (l.rungs.length : Int)) ∧
            Q .normal (sp 88 sl11 (hp11 l inp st (basesFrom 0 l.rungs) st false (List.replicate (Int.toNat (l.rungs.length : Int)) (K.dflt .bool))))))) = Pre11 Q l inp st := by kernel_rfl
theorem inl26_eq (Q : List V1 → List Ob → Prop) (u : List Value) (l : Lad) (inp : List Bool) (st0 : Sta) (bases : List Int) (s : Sta) (did : List Bool) :
    Q [.one (.clo 41 [.id 12, .id 13])] (hp11 l inp st0 bases s false did ++ [.frame u (spl 88 0 (sl11 ++ [(61, .v (nfK k23 l))]))] ++ [.box 24 (leaves k23 l), .box 64 [.ptr 9 0]]) = Inl26 Q u l inp st0 bases s did := by kernel_rfl
theorem head41_eq (Q : Ex → St → Prop) (u : List Value) (g l' : Nat) (oD oL : Obj) (l : Lad) (inp : List Bool) (st0 : Sta) (bases : List Int) (s : Sta) (on : Bool) (did : List Bool) (i : Int) :
    brP (decide (i < (l.rungs.length : Int))) (bound i l.rungs.length ∧ Q .normal (sty u g l' oD oL l inp st0 bases s on did (getE k45 l.rungs i) i)) (Q (.exit 0) (st41 u g l' oD oL l inp st0 bases s on did i)) = Head41 Q u g l' oD oL l inp st0 bases s on did i := by kernel_rfl
def rx11 (R0 R1 : St → Prop) (tm : List Value) (oR oB oDn : Obj) (u : List Value) (g l' : Nat) (oD : Obj) (l : Lad) (inp : List Bool) (st0 : Sta) (bases : List Int) (s : Sta) (on : Bool) (did : List Bool) (r : Rung) (i : Int) : Prop :=
  (small s ∧ (Rung.contacts r).length ≤ 1000000 ∧ (Rung.coils r).length ≤ 1000000) ∧
      brP ((scanR r inp s (getE (.int .i64) bases i)).2.2 != 0)
        ((l' = l' ∧ oB = oB) ∧ tm = tm ∧ R1 (sp 34 (sy41 l' r i) (hpG l inp st0 [.nils, .nils, .nils] [.nils] [.int .i64 (scanR r inp s (getE (.int .i64) bases i)).2.2] bases s on (did.set i.toNat true) ++ mo41 u g l' oD oDn l ++ [.box 46 (leaves k45 r)])))
        ((l' = l' ∧ oB = oB) ∧ tm = tm ∧ R0 (sty u g l' oD oR l inp st0 bases (scanR r inp s (getE (.int .i64) bases i)).1 (scanR r inp s (getE (.int .i64) bases i)).2.1 (did.set i.toNat true) r i))
theorem round11_eq (R0 R1 : St → Prop) (tm : List Value) (oR oB oDn : Obj) (u : List Value) (g l' : Nat) (oD : Obj) (l : Lad) (inp : List Bool) (st0 : Sta) (bases : List Int) (s : Sta) (on : Bool) (did : List Bool) (r : Rung) (i : Int) :
    ((l' = l' ∧ oR = oR) ∧ bound i did.length ∧ bound i bases.length ∧ rx11 R0 R1 tm oR oB oDn u g l' oD l inp st0 bases s on did r i ∧ rx11 R0 R1 tm oR oB oDn u g l' oD l inp st0 bases s on did r i) =
    Round11 R0 R1 tm oR oB oDn u g l' oD l inp st0 bases s on did r i := by kernel_rfl
theorem tail41_eq (Q : Ex → St → Prop) (u : List Value) (g l' : Nat) (oD oL : Obj) (l : Lad) (inp : List Bool) (st0 : Sta) (bases : List Int) (s : Sta) (on : Bool) (did : List Bool) (r : Rung) (i : Int) :
    brP on (brP (ByteArray.toList r.2.2.2 != ByteArray.toList (ByteArray.mk #[])) (bound i l.rungs.length ∧ l.rungs.length ≤ 1000000 ∧ Q .normal (st41 u g l' oD oL l inp st0 bases s on did (behind l i)))
      (Q .normal (st41 u g l' oD oL l inp st0 bases s on did (IntKind.i64.wrap (i + 1))))) (Q .normal (st41 u g l' oD oL l inp st0 bases s on did (IntKind.i64.wrap (i + 1)))) = Tail41 Q u g l' oD oL l inp st0 bases s on did r i := by kernel_rfl
noncomputable def TailR41 (Q : St → Prop) (u : List Value) (g l' : Nat) (oD oL : Obj) (l : Lad) (inp : List Bool) (st0 : Sta) (e : Int) (bases : List Int) (s : Sta) (on : Bool) (did : List Bool) (r : Rung) (i : Int) : Prop :=
  opsK tt E41 ops41.toList (ops41.toList.drop 4) (sp 34 (sy41 l' r i ++ [(19, .v (.one (.bool false)))]) (hpG l inp st0 [.nils, .nils, .nils] [.nils] [.int .i64 e] bases s on did ++ mo41 u g l' oD oL l ++ [.box 46 (leaves k45 r)])) fun s => awp tt E41 [] (Code.b y41) 1 s fun ex s => match ex with
    | .ret => dropK [0] L16 s Q
    | _ => False
theorem tailR41_eq (Q : St → Prop) (u : List Value) (g l' : Nat) (oD oL : Obj) (l : Lad) (inp : List Bool) (st0 : Sta) (e : Int) (bases : List Int) (s : Sta) (on : Bool) (did : List Bool) (r : Rung) (i : Int) :
    Q (sp 34 [(0, .v (.one (.yld l')))] (hpG l inp st0 [.nils, .nils, .nils] [.nils] [.int .i64 e] bases s on did ++ mo41 u g l' oD oL l)) = TailR41 Q u g l' oD oL l inp st0 e bases s on did r i := by kernel_rfl
/-- The scan's results. -/
def sk11 : List (Nat × V) := [(6, .v (.one (.ptr 3 0))), (7, .v (.one (.ptr 4 0))), (8, .v (.one (.ptr 5 0)))]
theorem post11_eq (Q : Ex → St → Prop) (u : List Value) (g l' : Nat) (oD oL : Obj) (l : Lad) (inp : List Bool) (st0 : Sta) (bases : List Int) (s : Sta) (on : Bool) (did : List Bool) :
    (Q .ret (sp 88 sk11 (hpG l inp st0 (leaves k26 s) [.own 10] [.int .i64 0] bases s on did ++ mo41 u g l' oD oL l)) ∧ Q .ret (sp 88 sk11 (hpG l inp st0 (leaves k26 s) [.own 10] [.int .i64 0] bases s on did ++ mo41 u g l' oD oL l))) =
    Post11 Q u g l' oD oL l inp st0 bases s on did := by kernel_rfl
end Go.AM
