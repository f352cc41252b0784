/- What the functions of the program compute, as plain functions; their specs. Conditions: none. -/
import Derived.Test.YtlfelhdcokadbaaSeal
import Derived.Test.YtlfelhdcokadbaaTk
import Derived.Test.YtlfelhdcokadbaaB1
import Derived.Test.YtlfelhdcokadbaaB2
import Derived.Test.YtlfelhdcokadbaaB4
set_option linter.all false
namespace Go.AM
open Go.Proofs
abbrev kR : K := .slice 46 k45
abbrev ksI : K := .slice 3 (.int .i64)
abbrev Con := k74.ty
abbrev Coi := k76.ty
abbrev Rung := k45.ty
abbrev Lad := k23.ty
abbrev Sta := k26.ty
abbrev zeroS : Sta := ([], [], [])
abbrev Rung.label (r : Rung) : ByteArray := r.1
abbrev Rung.contacts (r : Rung) : List Con := r.2.1
abbrev Rung.coils (r : Rung) : List Coi := r.2.2.1
abbrev Rung.jump (r : Rung) : ByteArray := r.2.2.2
abbrev Lad.rungs (l : Lad) : List Rung := l.2.2.2
abbrev str0 : ByteArray := ByteArray.mk #[]
def i64 (x : Int) : V1 := .one (.int .i64 x)
def bo (x : Bool) : V1 := .one (.bool x)
/-- state.Read -/
def img (inp : List Bool) (st : Sta) (k : Int) : List Bool := bif k == 0 then inp else bif k == 1 then st.1 else st.2.1
def readS (inp : List Bool) (st : Sta) (a : k72.ty) : Bool × Int := bif decide (a.1 < 0) then (false, 8) else bif decide (a.1 ≥ 3) then (false, 8) else get (img inp st a.1) a.2
def F58 (inp : List Bool) (st : Sta) (a : k72.ty) (Q : QT) : Prop := Q [.one (.bool (readS inp st a).1), .one (.int .i64 (readS inp st a).2)] []
def sp58 : PT := S3 kbs k26 k72 F58
/-- state.Fits -/
def fits (s : k59.ty) (st : Sta) : Bool := decide ((st.1.length : Int) = s.2.1) && (decide ((st.2.1.length : Int) = s.2.2.1) && (decide ((st.2.2.length : Int) = s.2.2.2) && checkSize s == 0))
def F24 (s : k59.ty) (st : Sta) (Q : QT) : Prop := Q [.one (.bool (fits s st))] []
def sp24 : PT := S2 k59 k26 F24
/-- rungeval.conducting, rungeval.writes -/
def conducting (k : Int) (v was : Bool) : Bool := bif k == 0 then v else bif k == 1 then !v else bif k == 2 then v && !was else !v && was
def F59 (k : Int) (v was : Bool) (Q : QT) : Prop := bound k 4 ∧ Q [.one (.bool (conducting k v was))] []
def sp59 : PT := S3 ki .bool .bool F59
def writes (k : Int) (on : Bool) : Bool × Bool := bif k == 0 then (on, true) else bif k == 1 then (!on, true) else bif k == 2 then (true, on) else (false, on)
def F60 (k : Int) (on : Bool) (Q : QT) : Prop := bound k 4 ∧ Q [.one (.bool (writes k on).1), .one (.bool (writes k on).2)] []
def sp60 : PT := S2 ki .bool F60
/-- state.Write -/
def writeS (st : Sta) (a : k72.ty) (v : Bool) : Sta × Int :=
  bif a.1 == 1 then (bif (setI st.1 a.2 v).2 != 0 then (zeroS, (setI st.1 a.2 v).2) else (((setI st.1 a.2 v).1, st.2.1, st.2.2), 0))
  else bif a.1 == 2 then (bif (setI st.2.1 a.2 v).2 != 0 then (zeroS, (setI st.2.1 a.2 v).2) else ((st.1, (setI st.2.1 a.2 v).1, st.2.2), 0)) else (zeroS, 8)
def F61 (st : Sta) (a : k72.ty) (v : Bool) (Q : QT) : Prop := small st ∧ Q [nfK k26 (writeS st a v).1, .one (.int .i64 (writeS st a v).2)] []
def sp61 : PT := S3 k26 k72 .bool F61
/-- printer.part -/
def partE (s : k59.ty) (k : Int) (a : k72.ty) : Int := bif decide (k < 0) then 8 else bif decide (k ≥ 4) then 8 else checkAddr s a
def F55 (s : k59.ty) (k : Int) (a : k72.ty) (Q : QT) : Prop := Q [.one (.int .i64 (partE s k a))] []
def sp55 : PT := S3 k59 ki k72 F55
/-! closures over rungs -/
def atK (k : K) (x : k.ty) (k' : K) (Q : k'.ty → Prop) : Prop := if h : k = k' then Q (h ▸ x) else False
def sp54 : PT := fun args h Q => match args, h with
  | [v, .one (.rp k x 0)], [] => dK k45 v fun r => atK k x k45 fun y => Q [.one (.bool (decide (Rung.label r = Rung.label y)))] []
  | _, _ => False
def sp38 : PT := fun args h Q => match args, h with
  | [v, .one (.rp k x 0)], [] => dK k45 v fun r => atK k x k45 fun y => Q [.one (.bool (decide (Rung.label r = Rung.jump y)))] []
  | _, _ => False
/-- The jump of a ladder's rung. -/
def jumpAt (l : Lad) (i : Int) : ByteArray := Rung.jump (getE k45 l.rungs i)
def sp57 : PT := fun args h Q => match args, h with
  | [v, .one (.rp k x 0), .one (.rp k2 x2 0)], [] => dK k45 v fun r => atK k x k23 fun l => atK k2 x2 ki fun i => bound i (Lad.rungs l).length ∧ Q [.one (.bool (decide (Rung.label r = jumpAt l i)))] []
  | _, _ => False
/-- A closure's question. -/
def cloK (f : FuncId) (caps : List Cap) (Q : (Rung → Bool) → Prop) : Prop :=
  match f, caps with
  | 54, [.imm k x] => atK k x k45 fun y => Q fun r => decide (Rung.label r = Rung.label y)
  | 38, [.imm k x] => atK k x k45 fun y => Q fun r => decide (Rung.label r = Rung.jump y)
  | 57, [.imm k x, .imm k2 x2] => atK k x k23 fun l => atK k2 x2 ki fun i => bound i (Lad.rungs l).length ∧ Q fun r => decide (Rung.label r = jumpAt l i)
  | _, _ => False
/-- slices.IndexFunc -/
def idxP (p : Rung → Bool) : List Rung → Nat → Int
  | [], _ => -1
  | r :: l, i => bif p r then (i : Int) else idxP p l (i + 1)
def sp56 : PT := fun args h Q => match args, h with
  | [v, .one (.clo f caps)], [] => dK kR v fun l => cloK f caps fun p => l.length ≤ 4611686018427387904 ∧ Q [.one (.int .i64 (idxP p l 0))] []
  | _, _ => False
/-- slices.ContainsFunc -/
def sp37 : PT := fun args h Q => match args, h with
  | [v, .one (.clo f caps)], [] => dK kR v fun l => cloK f caps fun p => l.length ≤ 4611686018427387904 ∧ Q [.one (.bool (decide (0 ≤ idxP p l 0)))] []
  | _, _ => False
/-- pathmodel.behind -/
def behind (l : Lad) (i : Int) : Int := i + 1 + idxP (fun r => decide (Rung.label r = jumpAt l i)) (l.rungs.drop (i + 1).toNat) 0
def F42 (l : Lad) (i : Int) (Q : QT) : Prop := bound i l.rungs.length ∧ l.rungs.length ≤ 1000000 ∧ Q [.one (.int .i64 (behind l i))] []
def sp42 : PT := S2 k23 ki F42
/-- printer.rung -/
def consE (s : k59.ty) : List Con → Int
  | [] => 0
  | c :: r => bif partE s c.1 c.2.1 != 0 then partE s c.1 c.2.1 else bif !isName c.2.2.1 then 6 else bif !isName c.2.2.2 then 6 else consE s r
def coisE (s : k59.ty) : List Coi → Int
  | [] => 0
  | c :: r => bif partE s c.1 c.2 != 0 then partE s c.1 c.2 else bif c.2.1 == 0 then 2 else coisE s r
def rungE2 (s : k59.ty) (r : Rung) : Int :=
  bif decide (r.contacts.length > 256) then 10 else bif consE s r.contacts != 0 then consE s r.contacts else bif decide (r.coils.length > 16) then 10 else
  bif coisE s r.coils != 0 then coisE s r.coils else bif !decide (r.jump = str0) && !isName r.jump then 6 else 0
def rungE (s : k59.ty) (ahead : List Rung) (r : Rung) : Int :=
  bif !decide (Rung.label r = str0) && !isName r.label then 6 else bif !decide (Rung.label r = str0) && decide (0 ≤ idxP (fun x => decide (x.label = r.label)) ahead 0) then 9 else rungE2 s r
def F36 (s : k59.ty) (ahead : List Rung) (r : Rung) (Q : QT) : Prop := ahead.length ≤ 4611686018427387904 ∧ Q [.one (.int .i64 (rungE s ahead r))] []
def sp36 : PT := S3 k59 kR k45 F36
/-- printer.Check: the first loop's find, the second's. -/
def chk1 (s : k59.ty) (l : List Rung) : Nat → Nat → Option (Int × Int)
  | _, 0 => none
  | i, n + 1 => bif rungE s (l.take i) (getE k45 l i) != 0 then some (i, rungE s (l.take i) (getE k45 l i)) else chk1 s l (i + 1) n
def found (l : List Rung) (i : Nat) : Bool := decide (0 ≤ idxP (fun r => decide (Rung.label r = Rung.jump (getE k45 l i))) (l.drop (i + 1)) 0)
def chk2 (l : List Rung) : Nat → Nat → Option (Int × Int)
  | _, 0 => none
  | i, n + 1 => bif !decide (Rung.jump (getE k45 l i) = str0) && !found l i then some (i, 15) else chk2 l (i + 1) n
def checkL (l : Lad) : Int × Int :=
  bif checkSize (sizesOf l) != 0 then (0, 3) else bif decide (l.rungs.length > 64) then (0, 10) else
  match chk1 (sizesOf l) l.rungs 0 l.rungs.length with
  | some x => x
  | none => match chk2 l.rungs 0 l.rungs.length with
    | some x => x
    | none => ((l.rungs.length : Int), 0)
def F23 (l : Lad) (Q : QT) : Prop := Q [.one (.int .i64 (checkL l).1), .one (.int .i64 (checkL l).2)] []
def sp23 : PT := S1 k23 F23
/-- pathmodel.SlotBases -/
def edges (r : Rung) : Int := (r.contacts.countP isEdge : Nat)
def basesFrom : Int → List Rung → List Int
  | b, [] => [b]
  | b, r :: l => b :: basesFrom (b + edges r) l
def F16 (l : Lad) (Q : QT) : Prop := (l.rungs.length ≤ 1000 ∧ ∀ r ∈ l.rungs, (Rung.contacts r).length ≤ 1000000) ∧ Q [.one (.sl 3 (.int .i64) (basesFrom 0 l.rungs))] []
def sp16 : PT := S1 k23 F16
/-- rungeval.Contacts -/
def conGo (inp : List Bool) (st : Sta) : List Con → Int → List Bool → List Bool → List Bool × List Bool × Int
  | [], _, e, on => (on, e, 0)
  | c :: r, slot, e, on =>
    bif decide (c.1 < 0) then ([], [], 8) else bif decide (c.1 ≥ 4) then ([], [], 8) else
    bif (readS inp st c.2.1).2 != 0 then ([], [], (readS inp st c.2.1).2) else
    bif isEdge c then (bif decide (slot < 0) then ([], [], 3) else bif decide (slot ≥ (e.length : Int)) then ([], [], 3) else
      conGo inp st r (slot + 1) (e.set slot.toNat (readS inp st c.2.1).1) (on ++ [conducting c.1 (readS inp st c.2.1).1 (getE .bool e slot)]))
    else conGo inp st r slot e (on ++ [conducting c.1 (readS inp st c.2.1).1 false])
def contactsR (r : Rung) (inp : List Bool) (st : Sta) (slot : Int) : List Bool × Sta × Int :=
  bif (conGo inp st r.contacts slot st.2.2 []).2.2 != 0 then ([], zeroS, (conGo inp st r.contacts slot st.2.2 []).2.2)
  else ((conGo inp st r.contacts slot st.2.2 []).1, (st.1, st.2.1, (conGo inp st r.contacts slot st.2.2 []).2.1), 0)
def F43 (r : Rung) (inp : List Bool) (st : Sta) (slot : Int) (Q : QT) : Prop := (small st ∧ r.contacts.length ≤ 1000000) ∧
  Q [.one (.sl 4 .bool (contactsR r inp st slot).1), nfK k26 (contactsR r inp st slot).2.1, .one (.int .i64 (contactsR r inp st slot).2.2)] []
def sp43 : PT := S4 k45 kbs k26 ki F43
/-- rungeval.Conducts -/
abbrev Live := List (ByteArray × Bool)
def lnode : ByteArray := ByteArray.mk #[76]
def rnode : ByteArray := ByteArray.mk #[82]
def reachIn (n : ByteArray) : List Con → List Bool → List ByteArray × Live → List ByteArray × Live
  | [], _, x => x
  | _ :: _, [], x => x
  | c :: cs, o :: on, (todo, live) => reachIn n cs on (bif o && (decide (c.2.2.1 = n) && !mget live c.2.2.2) then (todo ++ [c.2.2.2], mset live c.2.2.2 true) else (todo, live))
def reachGo (cs : List Con) (on : List Bool) : Nat → List ByteArray → Live → Live
  | 0, _, live => live
  | _ + 1, [], live => live
  | n + 1, x :: todo, live => reachGo cs on n (reachIn x cs on (todo, live)).1 (reachIn x cs on (todo, live)).2
def conductsR (r : Rung) (on : List Bool) : Bool × Int :=
  bif decide (on.length = r.contacts.length) then (mget (reachGo r.contacts on (r.contacts.length + 2) [lnode] [(lnode, true)]) rnode, 0) else (false, 2)
def F44 (r : Rung) (on : List Bool) (Q : QT) : Prop := r.contacts.length ≤ 1000000 ∧ Q [.one (.bool (conductsR r on).1), .one (.int .i64 (conductsR r on).2)] []
def sp44 : PT := S2 k45 kbs F44
/-- rungeval.Coils -/
def coilGo (on : Bool) : List Coi → Sta → Sta × Int
  | [], s => (s, 0)
  | c :: r, s => bif decide (c.1 < 0) then (zeroS, 8) else bif decide (c.1 ≥ 4) then (zeroS, 8) else
    bif (writeS s c.2 (writes c.1 on).1).2 != 0 then (zeroS, (writeS s c.2 (writes c.1 on).1).2) else coilGo on r (bif (writes c.1 on).2 then (writeS s c.2 (writes c.1 on).1).1 else s)
def F45 (r : Rung) (st : Sta) (on : Bool) (Q : QT) : Prop := (small st ∧ r.coils.length ≤ 1000000) ∧ Q [nfK k26 (coilGo on r.coils st).1, .one (.int .i64 (coilGo on r.coils st).2)] []
def sp45 : PT := S3 k45 k26 .bool F45
/-- rungeval.Scan -/
def scanR (r : Rung) (inp : List Bool) (st : Sta) (slot : Int) : Sta × Bool × Int :=
  bif (contactsR r inp st slot).2.2 != 0 then (zeroS, false, (contactsR r inp st slot).2.2) else
  bif (conductsR r (contactsR r inp st slot).1).2 != 0 then (zeroS, false, (conductsR r (contactsR r inp st slot).1).2) else
  bif (coilGo (conductsR r (contactsR r inp st slot).1).1 r.coils (contactsR r inp st slot).2.1).2 != 0 then (zeroS, false, (coilGo (conductsR r (contactsR r inp st slot).1).1 r.coils (contactsR r inp st slot).2.1).2) else
  ((coilGo (conductsR r (contactsR r inp st slot).1).1 r.coils (contactsR r inp st slot).2.1).1, (conductsR r (contactsR r inp st slot).1).1, 0)
def F27 (r : Rung) (inp : List Bool) (st : Sta) (slot : Int) (Q : QT) : Prop := (small st ∧ r.contacts.length ≤ 1000000 ∧ r.coils.length ≤ 1000000) ∧
  Q [nfK k26 (scanR r inp st slot).1, .one (.bool (scanR r inp st slot).2.1), .one (.int .i64 (scanR r inp st slot).2.2)] []
def sp27 : PT := S4 k45 kbs k26 ki F27
/-- pathmodel.Scan: from a rung on -/
def nextR (l : Lad) (i : Nat) (on : Bool) : Nat := bif on && !decide (jumpAt l i = str0) then (behind l i).toNat else i + 1
def scanGo (l : Lad) (inp : List Bool) : Nat → Nat → Sta → List Bool → Sta × List Bool × Int
  | 0, _, s, did => (s, did, 0)
  | n + 1, i, s, did => bif decide (l.rungs.length ≤ i) then (s, did, 0) else
    bif (scanR (getE k45 l.rungs i) inp s (getE ki (basesFrom 0 l.rungs) i)).2.2 != 0 then (zeroS, [], (scanR (getE k45 l.rungs i) inp s (getE ki (basesFrom 0 l.rungs) i)).2.2) else
    scanGo l inp n (nextR l i (scanR (getE k45 l.rungs i) inp s (getE ki (basesFrom 0 l.rungs) i)).2.1) (scanR (getE k45 l.rungs i) inp s (getE ki (basesFrom 0 l.rungs) i)).1 (did.set i true)
def sizeE (l : Lad) : k59.ty := (l.1, l.2.1, l.2.2.1, getE ki (basesFrom 0 l.rungs) l.rungs.length)
def scanL (l : Lad) (inp : List Bool) (st : Sta) : Sta × List Bool × Int :=
  bif (checkL l).2 != 0 then (zeroS, [], (checkL l).2) else
  bif !decide ((inp.length : Int) = l.1) || !fits (sizeE l) st then (zeroS, [], 2) else
  scanGo l inp l.rungs.length 0 st (List.replicate l.rungs.length false)
def F11 (l : Lad) (inp : List Bool) (st : Sta) (Q : QT) : Prop := small st ∧ Q [nfK k26 (scanL l inp st).1, .one (.sl 4 .bool (scanL l inp st).2.1), .one (.int .i64 (scanL l inp st).2.2)] []
def sp11 : PT := S3 k23 kbs k26 F11
end Go.AM
