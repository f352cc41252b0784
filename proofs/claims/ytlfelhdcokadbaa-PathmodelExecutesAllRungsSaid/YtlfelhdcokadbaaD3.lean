/- The scan of a ladder: the parts of its code, for the abstract machine. Conditions: none. -/
import Derived.Test.YtlfelhdcokadbaaIter
import Derived.Test.YtlfelhdcokadbaaD2
set_option linter.all false
namespace Go.AM
open Go.Proofs
def E11 : Env := [(16, sp16), (23, sp23), (24, sp24), (25, sp25s), (27, sp27)]
def E41 : Env := [(42, sp42)]
noncomputable abbrev c11 : Code := Func.code Try.f11
noncomputable def z11 : Code := Code.b (Code.b (Code.b (Code.b (Code.b (Code.b (Code.b c11))))))
noncomputable def pre11 : List Code := [Code.a c11, Code.a (Code.b c11), Code.a (Code.b (Code.b c11)), Code.a (Code.b (Code.b (Code.b c11))), Code.a (Code.b (Code.b (Code.b (Code.b c11)))), Code.a (Code.b (Code.b (Code.b (Code.b (Code.b c11))))), Code.a (Code.b (Code.b (Code.b (Code.b (Code.b (Code.b c11))))))]
def st11 (l : Lad) (inp : List Bool) (st : Sta) : St := sp 88 [(0, .v (nfK k23 l)), (1, .v (nfK kbs inp)), (2, .v (nfK k26 st))] []
def keep11 : List Nat := [3, 4, 5, 6, 7, 8, 11, 12, 13, 14]
noncomputable def Pre11 (Q : Ex → St → Prop) (l : Lad) (inp : List Bool) (st : Sta) : Prop :=
  awpL tt E11 [] pre11 0 (st11 l inp st) fun ex s => match ex with
    | .normal => normK keep11 s (Q .normal)
    | .ret => normK [6, 7, 8] s (Q .ret)
    | .exit _ => False
/-- The objects of the scan's own frame. -/
def hp11 (l : Lad) (inp : List Bool) (st0 : Sta) (bases : List Int) (s : Sta) (on : Bool) (did : List Bool) : List Ob :=
  [.box 24 (leaves k23 l), .box 25 [.sl 4 .bool inp], .box 27 (leaves k26 st0), .box 27 [.nils, .nils, .nils], .box 25 [.nils], .box 32 [.int .i64 0], .box 40 [.sl 3 (.int .i64) bases], .box 27 (leaves k26 s), .box 25 [.own 10], .box 4 [.bool on], .row 4 .bool did]
def sl11 : List (Nat × V) := [(3, .v (.one (.ptr 0 0))), (4, .v (.one (.ptr 1 0))), (5, .v (.one (.ptr 2 0))), (6, .v (.one (.ptr 3 0))), (7, .v (.one (.ptr 4 0))), (8, .v (.one (.ptr 5 0))), (11, .v (.one (.ptr 6 0))), (12, .v (.one (.ptr 7 0))), (13, .v (.one (.ptr 8 0))), (14, .v (.one (.ptr 9 0)))]
/-- rungs, called with the whole heap. -/
def Inl26 (Q : List V1 → List Ob → Prop) (u : List Value) (l : Lad) (inp : List Bool) (st0 : Sta) (bases : List Int) (s : Sta) (did : List Bool) : Prop :=
  afun tt [] [] Try.f26 [nfK k23 l, .one (.ptr 9 0)] (hp11 l inp st0 bases s false did ++ [.frame u (spl 88 0 (sl11 ++ [(61, .v (nfK k23 l))]))]) Q
/-! the iterator -/
noncomputable abbrev c41 : Code := Func.code Try.f41
noncomputable def lp41 : Code := Code.a (Code.a (Code.b c41))           -- the loop's body
noncomputable def x41 : Code := Code.a lp41
noncomputable def b41 : Code := Code.a (Code.b lp41)                    -- what the block holds
noncomputable def r41 : Code := Code.a b41
noncomputable def y41 : Code := Code.a (Code.b b41)                     -- the round, its answer
noncomputable def t41 : Code := Code.b (Code.b b41)
noncomputable def ops41 : Array Oper := match Code.a y41 with | .region _ ops _ => ops | _ => #[]
/-- Only some temporaries and objects stay. -/
def dropK (keep L : List Nat) (s : St) (R : St → Prop) : Prop :=
  ifK (nodupB L) (someK (renHeap L s.heap L) fun h' => stK ⟨(keepFrom keep 0 s.slots).map (mapV (renL L)), h'⟩ R)
def base41 (u : List Value) (g l' : Nat) (oD oL : Obj) (l : Lad) (inp : List Bool) (st0 : Sta) (bases : List Int) (s : Sta) (on : Bool) (did : List Bool) : List Ob :=
  hp11 l inp st0 bases s on did ++ [.box 24 (leaves k23 l), .box 64 [.ptr 9 0], .frame u (spl 88 0 (sl11 ++ [(62, .v (.one (.clo 41 [.id 11, .id 12])))])), .raw g oD, .raw l' oL]
def st41 (u : List Value) (g l' : Nat) (oD oL : Obj) (l : Lad) (inp : List Bool) (st0 : Sta) (bases : List Int) (s : Sta) (on : Bool) (did : List Bool) (i : Int) : St :=
  sp 34 [(0, .v (.one (.yld l'))), (1, .v (.one (.ptr 11 0))), (2, .v (.one (.ptr 12 0))), (4, .v (.one (.int .i64 i)))] (base41 u g l' oD oL l inp st0 bases s on did)
def L16 : List Nat := [0, 1, 2, 3, 4, 5, 6, 7, 8, 9, 10, 11, 12, 13, 14, 15]
def L17 : List Nat := [0, 1, 2, 3, 4, 5, 6, 7, 8, 9, 10, 11, 12, 13, 14, 15, 16]
noncomputable def Head41 (Q : Ex → St → Prop) (u : List Value) (g l' : Nat) (oD oL : Obj) (l : Lad) (inp : List Bool) (st0 : Sta) (bases : List Int) (s : Sta) (on : Bool) (did : List Bool) (i : Int) : Prop :=
  awp tt E41 [] x41 0 (st41 u g l' oD oL l inp st0 bases s on did i) fun ex s => match ex with
    | .normal => awp tt E41 [] r41 1 s fun ex s => match ex with
      | .normal => opsK tt E41 ops41.toList (ops41.toList.take 3) s fun s => dropK [0, 1, 2, 4, 5, 16, 17, 18] L17 s (Q .normal)
      | _ => False
    | .exit n => dropK [0, 1, 2, 4] L16 s (Q (.exit n))
    | .ret => False
/-- The iterator's frame at the call of yield. -/
def sy41 (l' : Nat) (r : Rung) (i : Int) : List (Nat × V) := [(0, .v (.one (.yld l'))), (1, .v (.one (.ptr 11 0))), (2, .v (.one (.ptr 12 0))), (4, .v (.one (.int .i64 i))), (5, .v (.one (.ptr 16 0))), (16, .v (.one (.yld l'))), (17, .v (.one (.int .i64 i))), (18, .v (nfK k45 r))]
def sty (u : List Value) (g l' : Nat) (oD oL : Obj) (l : Lad) (inp : List Bool) (st0 : Sta) (bases : List Int) (s : Sta) (on : Bool) (did : List Bool) (r : Rung) (i : Int) : St :=
  sp 34 (sy41 l' r i) (base41 u g l' oD oL l inp st0 bases s on did ++ [.box 46 (leaves k45 r)])
noncomputable abbrev rf11 : Code := Code.a (Code.b (Code.a z11))
noncomputable def as11 : Code := match rf11 with | .rangeFunc _ _ a _ => a | _ => .skip
noncomputable def bd11 : Code := match rf11 with | .rangeFunc _ _ _ b => b | _ => .skip
noncomputable def Round11 (R0 : St → Prop) (R1 : St → Prop) (tm : List Value) (oR oB oDn : Obj) (u : List Value) (g l' : Nat) (oD : Obj) (l : Lad) (inp : List Bool) (st0 : Sta) (bases : List Int) (s : Sta) (on : Bool) (did : List Bool) (r : Rung) (i : Int) : Prop :=
  roundK tt E11 [] as11 bd11 15 l' oR oB oDn 17 tm L17
    (sp 88 (sl11 ++ [(62, .v (.one (.clo 41 [.id 11, .id 12]))), (63, .v (.one (.int .i64 i))), (64, .v (nfK k45 r))]) (base41 u g l' oD oR l inp st0 bases s on did ++ [.box 46 (leaves k45 r), .frame tm (spl 34 0 (sy41 l' r i))])) R0 R1
def stz (u : List Value) (g l' : Nat) (oD oL : Obj) (l : Lad) (inp : List Bool) (st0 : Sta) (bases : List Int) (s : Sta) (on : Bool) (did : List Bool) (r : Rung) (i : Int) (b : Bool) : St :=
  sp 34 (sy41 l' r i ++ [(19, .v (.one (.bool b)))]) (base41 u g l' oD oL l inp st0 bases s on did ++ [.box 46 (leaves k45 r)])
noncomputable def Tail41 (Q : Ex → St → Prop) (u : List Value) (g l' : Nat) (oD oL : Obj) (l : Lad) (inp : List Bool) (st0 : Sta) (bases : List Int) (s : Sta) (on : Bool) (did : List Bool) (r : Rung) (i : Int) : Prop :=
  opsK tt E41 ops41.toList (ops41.toList.drop 4) (stz u g l' oD oL l inp st0 bases s on did r i true) fun s => awp tt E41 [] (Code.b y41) 1 s fun ex s => match ex with
    | .normal => awp tt E41 [] t41 1 s fun ex s => match ex with
      | .normal => dropK [0, 1, 2, 4] L16 s (Q .normal)
      | _ => False
    | _ => False
/-- Behind the loop. -/
noncomputable def post11 : Code := Code.b z11
def stp (u : List Value) (g l' : Nat) (oD oL : Obj) (l : Lad) (inp : List Bool) (st0 : Sta) (bases : List Int) (s : Sta) (on : Bool) (did : List Bool) : St :=
  sp 88 (sl11 ++ [(62, .v (.one (.clo 41 [.id 11, .id 12])))]) (base41 u g l' oD oL l inp st0 bases s on did)
noncomputable def Post11 (Q : Ex → St → Prop) (u : List Value) (g l' : Nat) (oD oL : Obj) (l : Lad) (inp : List Bool) (st0 : Sta) (bases : List Int) (s : Sta) (on : Bool) (did : List Bool) : Prop :=
  awp tt E11 [] post11 0 (stp u g l' oD oL l inp st0 bases s on did) fun ex s => match ex with
    | .ret => dropK [6, 7, 8] L16 s (Q .ret)
    | _ => False
end Go.AM
