/- What the laws' own functions compute; their specs. Conditions: none. -/
import Derived.Test.YtlfelhdcokadbaaD1
set_option linter.all false
namespace Go.AM
open Go.Proofs
/-- busbarlaw03.TooLarge -/
def bigS (s : Sta) : Bool := decide ((s.1.length : Int) > 1000) || (decide ((s.2.1.length : Int) > 1000) || decide ((s.2.2.length : Int) > 1000))
def F20 (l : List Sta) (Q : QT) : Prop := l.length ≤ 1000000 ∧ Q [.one (.int .i64 (bif l.any bigS then 1 else 0))] []
def sp20 : PT := S1 (.slice 27 k26) F20
def wideL (l : Lad) : Prop := l.rungs.length ≤ 4611686018427387904 ∧ ∀ r ∈ l.rungs, (Rung.contacts r).length ≤ 4611686018427387904
def isBit (v : Int) : Prop := v = 0 ∨ v = 1
def F33 (l : Lad) (Q : QT) : Prop := wideL l ∧ ∀ v : Int, isBit v → (v = 0 → l.rungs.length ≤ 70) → Q [.one (.int .i64 v)] []
def sp33 : PT := S1 k23 F33
def okL (l : Lad) : Prop := l.rungs.length ≤ 70 ∧ ∀ r ∈ l.rungs, (Rung.contacts r).length ≤ 40
def F21 (l : Lad) (Q : QT) : Prop := wideL l ∧ ∀ v : Int, isBit v → (v = 0 → okL l) → Q [.one (.int .i64 v)] []
def sp21 : PT := S1 k23 F21
abbrev kIns : K := .slice 25 kbs
def okIn (l : Lad) (st : Sta) (ins : List (List Bool)) : Prop := okL l ∧ bigS st = false ∧ ins.length ≤ 30 ∧ ∀ x ∈ ins, x.length ≤ 500
def F8 (l : Lad) (st : Sta) (ins : List (List Bool)) (Q : QT) : Prop := (wideL l ∧ ins.length ≤ 4611686018427387904) ∧ ∀ v : Int, isBit v → (v = 0 → okIn l st ins) → Q [.one (.int .i64 v)] []
def sp8 : PT := S3 k23 k26 kIns F8
def znode : ByteArray := ByteArray.mk #[122]
def con0 : Con := (0, (0, 0), lnode, rnode)
def exampleL : Lad := (1, 2, 0, [(str0, [con0], [], znode), (str0, [con0], [(0, 1, 0)], str0), (znode, [con0], [(0, 1, 1)], str0)])
def F22 (Q : QT) : Prop := Q [nfK k23 exampleL] []
def sp22 : PT := S0 F22
def F9 (Q : QT) : Prop := Q [.one (.bool true)] []
def sp9 : PT := S0 F9
def wideS (s : Sta) : Prop := small s
def F5 (l : Lad) (st : Sta) (inp : List Bool) (Q : QT) : Prop := wideL l ∧ Q [.one (.bool true)] []
def sp5 : PT := S3 k23 k26 kbs F5
end Go.AM
