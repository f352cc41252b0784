/- Functions of the program: the smallest ones. Conditions: none. -/
import Derived.Test.YtlfelhdcokadbaaSeal
import Derived.Test.YtlfelhdcokadbaaTk
set_option linter.all false
namespace Go.AM
open Go.Proofs
abbrev ki : K := .int .i64
abbrev kbs : K := .slice 4 .bool
/-- addr.within -/
def within (x hi : Int) : Bool := bif decide (0 ≤ x) then decide (x ≤ hi) else false
def F52 (x hi : Int) (Q : QT) : Prop := Q [.one (.bool (within x hi))] []
def sp52 : PT := S2 ki ki F52
-- f52 "busbar/addr.within" ['3', '3'] -> ['4']
def A52 : Ann := []
def E52 : Env := []
def I52 (p0 : ((.int .i64) : K).ty) (p1 : ((.int .i64) : K).ty) : List V1 := [nfK (.int .i64) p0, nfK (.int .i64) p1]
def t52 (Q : List V1 → List Ob → Prop) (p0 : K.ty (K.int IntKind.i64)) (p1 : K.ty (K.int IntKind.i64)) : Prop :=
  brP (decide (p0 ≥ (0 : Int))) (Q [V1.one (Lf.bool (decide (p0 ≤ p1)))] []) (Q [V1.one (Lf.bool false)] [])
theorem t52_mono {Q : List V1 → List Ob → Prop} {Q' : List V1 → List Ob → Prop} (hq : ∀ r h, Q r h → Q' r h) (p0 : K.ty (K.int IntKind.i64)) (p1 : K.ty (K.int IntKind.i64)) :
    t52 Q p0 p1 → t52 Q' p0 p1 :=
  brM (hq _ _) (hq _ _)
theorem t52_eq (Q : List V1 → List Ob → Prop) (p0 : K.ty (K.int IntKind.i64)) (p1 : K.ty (K.int IntKind.i64)) :
    t52 Q p0 p1 = (afun tt E52 A52 Try.f52 (I52 p0 p1) [] Q) := by kernel_rfl
def H52 (Q : List V1 → List Ob → Prop) (p0 : K.ty (K.int IntKind.i64)) (p1 : K.ty (K.int IntKind.i64)) : Prop := t52 Q p0 p1
theorem ok52 (Q : List V1 → List Ob → Prop) (p0 : K.ty (K.int IntKind.i64)) (p1 : K.ty (K.int IntKind.i64)) (h : H52 Q p0 p1) : Of (afun tt E52 A52 Try.f52 (I52 p0 p1) [] Q) :=
  kcO (t52_eq Q p0 p1) (t52_mono (fun _ _ h => h) p0 p1 h)
theorem env52 : EnvOk Try.prog E52 := .nil
theorem spec52 : SpecOk Try.prog 52 sp52 := S2.ok tt_ok mixed env52 Try.func52 fun x y Q h => ok52 Q x y <| by
  unfold H52 t52; unfold F52 within at h
  refine brP_intro (fun c => ?_) (fun c => ?_) <;> simp_all
/-- image.is -/
def isIn (n : Nat) (x : Int) : Bool := bif decide (0 ≤ x) then decide (x < (n : Int)) else false
def F75 (l : List Bool) (x : Int) (Q : QT) : Prop := Q [.one (.bool (isIn l.length x))] []
def sp75 : PT := S2 kbs ki F75
-- f75 "busbar/image.is" ['25', '3'] -> ['4']
def A75 : Ann := []
def E75 : Env := []
def I75 (p0 : ((.slice 4 .bool) : K).ty) (p1 : ((.int .i64) : K).ty) : List V1 := [nfK (.slice 4 .bool) p0, nfK (.int .i64) p1]
def t75 (Q : List V1 → List Ob → Prop) (p0 : K.ty (K.slice (4 : TypeId) K.bool)) (p1 : K.ty (K.int IntKind.i64)) : Prop :=
  brP (decide (p1 ≥ (0 : Int))) (Q [V1.one (Lf.bool (decide (p1 < (↑(List.length p0) : Int))))] []) (Q [V1.one (Lf.bool false)] [])
theorem t75_mono {Q : List V1 → List Ob → Prop} {Q' : List V1 → List Ob → Prop} (hq : ∀ r h, Q r h → Q' r h) (p0 : K.ty (K.slice (4 : TypeId) K.bool)) (p1 : K.ty (K.int IntKind.i64)) :
    t75 Q p0 p1 → t75 Q' p0 p1 :=
  brM (hq _ _) (hq _ _)
theorem t75_eq (Q : List V1 → List Ob → Prop) (p0 : K.ty (K.slice (4 : TypeId) K.bool)) (p1 : K.ty (K.int IntKind.i64)) :
    t75 Q p0 p1 = (afun tt E75 A75 Try.f75 (I75 p0 p1) [] Q) := by kernel_rfl
def H75 (Q : List V1 → List Ob → Prop) (p0 : K.ty (K.slice (4 : TypeId) K.bool)) (p1 : K.ty (K.int IntKind.i64)) : Prop := t75 Q p0 p1
theorem ok75 (Q : List V1 → List Ob → Prop) (p0 : K.ty (K.slice (4 : TypeId) K.bool)) (p1 : K.ty (K.int IntKind.i64)) (h : H75 Q p0 p1) : Of (afun tt E75 A75 Try.f75 (I75 p0 p1) [] Q) :=
  kcO (t75_eq Q p0 p1) (t75_mono (fun _ _ h => h) p0 p1 h)
theorem env75 : EnvOk Try.prog E75 := .nil
theorem spec75 : SpecOk Try.prog 75 sp75 := S2.ok tt_ok mixed env75 Try.func75 fun x y Q h => ok75 Q x y <| by
  unfold H75 t75; unfold F75 isIn at h
  refine brP_intro (fun c => ?_) (fun c => ?_) <;> simp_all
/-- addr.Width -/
def width (s : k59.ty) (k : Int) : Int := bif k == 0 then s.1 else bif k == 1 then s.2.1 else bif k == 2 then s.2.2.1 else 0
def F74 (s : k59.ty) (k : Int) (Q : QT) : Prop := Q [.one (.int .i64 (width s k))] []
def sp74 : PT := S2 k59 ki F74
-- f74 "busbar/addr.Width" ['60', '3'] -> ['3']
def A74 : Ann := []
def E74 : Env := []
def I74 (p0 : (k59 : K).ty) (p1 : ((.int .i64) : K).ty) : List V1 := [nfK k59 p0, nfK (.int .i64) p1]
def t74 (Q : List V1 → List Ob → Prop) (p0 : K.ty k59) (p1 : K.ty (K.int IntKind.i64)) : Prop :=
  brP (p1 == (0 : Int)) (Q [V1.one (Lf.int IntKind.i64 p0.fst)] []) (brP (p1 == (1 : Int)) (Q [V1.one (Lf.int IntKind.i64 p0.snd.fst)] []) (brP (p1 == (2 : Int)) (Q [V1.one (Lf.int IntKind.i64 p0.snd.snd.fst)] []) (Q [V1.one (Lf.int IntKind.i64 (0 : Int))] [])))
theorem t74_mono {Q : List V1 → List Ob → Prop} {Q' : List V1 → List Ob → Prop} (hq : ∀ r h, Q r h → Q' r h) (p0 : K.ty k59) (p1 : K.ty (K.int IntKind.i64)) :
    t74 Q p0 p1 → t74 Q' p0 p1 :=
  brM (hq _ _) (brM (hq _ _) (brM (hq _ _) (hq _ _)))
theorem t74_eq (Q : List V1 → List Ob → Prop) (p0 : K.ty k59) (p1 : K.ty (K.int IntKind.i64)) :
    t74 Q p0 p1 = (afun tt E74 A74 Try.f74 (I74 p0 p1) [] Q) := by kernel_rfl
def H74 (Q : List V1 → List Ob → Prop) (p0 : K.ty k59) (p1 : K.ty (K.int IntKind.i64)) : Prop := t74 Q p0 p1
theorem ok74 (Q : List V1 → List Ob → Prop) (p0 : K.ty k59) (p1 : K.ty (K.int IntKind.i64)) (h : H74 Q p0 p1) : Of (afun tt E74 A74 Try.f74 (I74 p0 p1) [] Q) :=
  kcO (t74_eq Q p0 p1) (t74_mono (fun _ _ h => h) p0 p1 h)
theorem env74 : EnvOk Try.prog E74 := .nil
theorem spec74 : SpecOk Try.prog 74 sp74 := S2.ok tt_ok mixed env74 Try.func74 fun x y Q h => ok74 Q x y <| by
  unfold H74 t74; unfold F74 width at h
  refine brP_intro (fun c => ?_) (fun c => ?_)
  · simp_all
  · refine brP_intro (fun c => ?_) (fun c => ?_)
    · simp_all
    · refine brP_intro (fun c => ?_) (fun c => ?_) <;> simp_all
def sp76 : PT := S2 k59 ki F74
-- f76 "busbar/busbarref01.Width" ['60', '3'] -> ['3']
def A76 : Ann := []
def E76 : Env := []
def I76 (p0 : (k59 : K).ty) (p1 : ((.int .i64) : K).ty) : List V1 := [nfK k59 p0, nfK (.int .i64) p1]
def t76 (Q : List V1 → List Ob → Prop) (p0 : K.ty k59) (p1 : K.ty (K.int IntKind.i64)) : Prop :=
  brP (p1 == (0 : Int)) (Q [V1.one (Lf.int IntKind.i64 p0.fst)] []) (brP (p1 == (1 : Int)) (Q [V1.one (Lf.int IntKind.i64 p0.snd.fst)] []) (brP (p1 == (2 : Int)) (Q [V1.one (Lf.int IntKind.i64 p0.snd.snd.fst)] []) (Q [V1.one (Lf.int IntKind.i64 (0 : Int))] [])))
theorem t76_mono {Q : List V1 → List Ob → Prop} {Q' : List V1 → List Ob → Prop} (hq : ∀ r h, Q r h → Q' r h) (p0 : K.ty k59) (p1 : K.ty (K.int IntKind.i64)) :
    t76 Q p0 p1 → t76 Q' p0 p1 :=
  brM (hq _ _) (brM (hq _ _) (brM (hq _ _) (hq _ _)))
theorem t76_eq (Q : List V1 → List Ob → Prop) (p0 : K.ty k59) (p1 : K.ty (K.int IntKind.i64)) :
    t76 Q p0 p1 = (afun tt E76 A76 Try.f76 (I76 p0 p1) [] Q) := by kernel_rfl
def H76 (Q : List V1 → List Ob → Prop) (p0 : K.ty k59) (p1 : K.ty (K.int IntKind.i64)) : Prop := t76 Q p0 p1
theorem ok76 (Q : List V1 → List Ob → Prop) (p0 : K.ty k59) (p1 : K.ty (K.int IntKind.i64)) (h : H76 Q p0 p1) : Of (afun tt E76 A76 Try.f76 (I76 p0 p1) [] Q) :=
  kcO (t76_eq Q p0 p1) (t76_mono (fun _ _ h => h) p0 p1 h)
theorem env76 : EnvOk Try.prog E76 := .nil
theorem spec76 : SpecOk Try.prog 76 sp76 := S2.ok tt_ok mixed env76 Try.func76 fun x y Q h => ok76 Q x y <| by
  unfold H76 t76; unfold F74 width at h
  refine brP_intro (fun c => ?_) (fun c => ?_)
  · simp_all
  · refine brP_intro (fun c => ?_) (fun c => ?_)
    · simp_all
    · refine brP_intro (fun c => ?_) (fun c => ?_) <;> simp_all
/-- addr.CheckAddr -/
def checkAddr (s : k59.ty) (a : k72.ty) : Int := bif !within a.1 2 then 8 else bif decide (a.2 < 0) then 3 else bif decide (a.2 ≥ width s a.1) then 3 else 0
def F69 (s : k59.ty) (a : k72.ty) (Q : QT) : Prop := Q [.one (.int .i64 (checkAddr s a))] []
def sp69 : PT := S2 k59 k72 F69
-- f69 "busbar/addr.CheckAddr" ['60', '73'] -> ['32']
def A69 : Ann := []
def E69 : Env := [(52, sp52), (74, sp74)]
def I69 (p0 : (k59 : K).ty) (p1 : (k72 : K).ty) : List V1 := [nfK k59 p0, nfK k72 p1]
def t69 (Q : List V1 → List Ob → Prop) (p0 : K.ty k59) (p1 : K.ty k72) : Prop :=
  brP (!within p1.fst (2 : Int)) (Q [V1.one (Lf.int IntKind.i64 (8 : Int))] []) (brP (decide (p1.snd < (0 : Int))) (Q [V1.one (Lf.int IntKind.i64 (3 : Int))] []) (brP (decide (p1.snd ≥ width p0 p1.fst)) (Q [V1.one (Lf.int IntKind.i64 (3 : Int))] []) (Q [V1.one (Lf.int IntKind.i64 (0 : Int))] [])))
theorem t69_mono {Q : List V1 → List Ob → Prop} {Q' : List V1 → List Ob → Prop} (hq : ∀ r h, Q r h → Q' r h) (p0 : K.ty k59) (p1 : K.ty k72) :
    t69 Q p0 p1 → t69 Q' p0 p1 :=
  brM (hq _ _) (brM (hq _ _) (brM (hq _ _) (hq _ _)))
theorem t69_eq (Q : List V1 → List Ob → Prop) (p0 : K.ty k59) (p1 : K.ty k72) :
    t69 Q p0 p1 = (afun tt E69 A69 Try.f69 (I69 p0 p1) [] Q) := by kernel_rfl
def H69 (Q : List V1 → List Ob → Prop) (p0 : K.ty k59) (p1 : K.ty k72) : Prop := t69 Q p0 p1
theorem ok69 (Q : List V1 → List Ob → Prop) (p0 : K.ty k59) (p1 : K.ty k72) (h : H69 Q p0 p1) : Of (afun tt E69 A69 Try.f69 (I69 p0 p1) [] Q) :=
  kcO (t69_eq Q p0 p1) (t69_mono (fun _ _ h => h) p0 p1 h)
theorem env69 : EnvOk Try.prog E69 := .cons spec52 (by kernel_rfl) <| .cons spec74 (by kernel_rfl) <| .nil
theorem spec69 : SpecOk Try.prog 69 sp69 := S2.ok tt_ok mixed env69 Try.func69 fun x y Q h => ok69 Q x y <| by
  unfold H69 t69; unfold F69 checkAddr at h
  refine brP_intro (fun c => ?_) (fun c => ?_)
  · simp_all
  · refine brP_intro (fun c => ?_) (fun c => ?_)
    · simp_all
    · refine brP_intro (fun c => ?_) (fun c => ?_) <;> simp_all
def sp73 : PT := S2 k59 k72 F69
-- f73 "busbar/busbarref01.CheckAddr" ['60', '73'] -> ['3']
def A73 : Ann := []
def E73 : Env := [(76, sp76)]
def I73 (p0 : (k59 : K).ty) (p1 : (k72 : K).ty) : List V1 := [nfK k59 p0, nfK k72 p1]
def t73 (Q : List V1 → List Ob → Prop) (p0 : K.ty k59) (p1 : K.ty k72) : Prop :=
  brP (decide (p1.fst < (0 : Int))) (Q [V1.one (Lf.int IntKind.i64 (8 : Int))] []) (brP (decide (p1.fst > (2 : Int))) (Q [V1.one (Lf.int IntKind.i64 (8 : Int))] []) (brP (decide (p1.snd < (0 : Int))) (Q [V1.one (Lf.int IntKind.i64 (3 : Int))] []) (brP (decide (p1.snd ≥ width p0 p1.fst)) (Q [V1.one (Lf.int IntKind.i64 (3 : Int))] []) (Q [V1.one (Lf.int IntKind.i64 (0 : Int))] []))))
theorem t73_mono {Q : List V1 → List Ob → Prop} {Q' : List V1 → List Ob → Prop} (hq : ∀ r h, Q r h → Q' r h) (p0 : K.ty k59) (p1 : K.ty k72) :
    t73 Q p0 p1 → t73 Q' p0 p1 :=
  brM (hq _ _) (brM (hq _ _) (brM (hq _ _) (brM (hq _ _) (hq _ _))))
theorem t73_eq (Q : List V1 → List Ob → Prop) (p0 : K.ty k59) (p1 : K.ty k72) :
    t73 Q p0 p1 = (afun tt E73 A73 Try.f73 (I73 p0 p1) [] Q) := by kernel_rfl
def H73 (Q : List V1 → List Ob → Prop) (p0 : K.ty k59) (p1 : K.ty k72) : Prop := t73 Q p0 p1
theorem ok73 (Q : List V1 → List Ob → Prop) (p0 : K.ty k59) (p1 : K.ty k72) (h : H73 Q p0 p1) : Of (afun tt E73 A73 Try.f73 (I73 p0 p1) [] Q) :=
  kcO (t73_eq Q p0 p1) (t73_mono (fun _ _ h => h) p0 p1 h)
theorem env73 : EnvOk Try.prog E73 := .cons spec76 (by kernel_rfl) <| .nil
theorem spec73 : SpecOk Try.prog 73 sp73 := S2.ok tt_ok mixed env73 Try.func73 fun x y Q h => ok73 Q x y <| by
  unfold H73 t73; unfold F69 checkAddr within at h
  refine brP_intro (fun c => ?_) (fun c => ?_)
  · have : ¬ (0 ≤ y.1) := by simpa using c
    simp_all
  · refine brP_intro (fun d => ?_) (fun d => ?_)
    · have h0 : 0 ≤ y.1 := by simpa using c
      have h2 : ¬ (y.1 ≤ 2) := by simpa using d
      simp_all
    · have h0 : 0 ≤ y.1 := by simpa using c
      have h2 : y.1 ≤ 2 := by simpa using d
      refine brP_intro (fun c => ?_) (fun c => ?_)
      · simp_all
      · refine brP_intro (fun c => ?_) (fun c => ?_) <;> simp_all
/-- image.Get -/
def get (l : List Bool) (i : Int) : Bool × Int := bif isIn l.length i then (getE .bool l i, 0) else (false, 3)
def F70 (l : List Bool) (i : Int) (Q : QT) : Prop := Q [.one (.bool (get l i).1), .one (.int .i64 (get l i).2)] []
def sp70 : PT := S2 kbs ki F70
-- f70 "busbar/image.Get" ['25', '3'] -> ['4', '32']
def A70 : Ann := []
def E70 : Env := [(75, sp75)]
def I70 (p0 : ((.slice 4 .bool) : K).ty) (p1 : ((.int .i64) : K).ty) : List V1 := [nfK (.slice 4 .bool) p0, nfK (.int .i64) p1]
def t70 (Q : List V1 → List Ob → Prop) (p0 : K.ty (K.slice (4 : TypeId) K.bool)) (p1 : K.ty (K.int IntKind.i64)) : Prop :=
  brP (!isIn (List.length p0) p1) (Q [V1.one (Lf.bool false), V1.one (Lf.int IntKind.i64 (3 : Int))] []) (bound p1 (List.length p0) ∧ Q [V1.one (Lf.bool (getE K.bool p0 p1)), V1.one (Lf.int IntKind.i64 (0 : Int))] [])
theorem t70_mono {Q : List V1 → List Ob → Prop} {Q' : List V1 → List Ob → Prop} (hq : ∀ r h, Q r h → Q' r h) (p0 : K.ty (K.slice (4 : TypeId) K.bool)) (p1 : K.ty (K.int IntKind.i64)) :
    t70 Q p0 p1 → t70 Q' p0 p1 :=
  brM (hq _ _) (andM (id) (hq _ _))
theorem t70_eq (Q : List V1 → List Ob → Prop) (p0 : K.ty (K.slice (4 : TypeId) K.bool)) (p1 : K.ty (K.int IntKind.i64)) :
    t70 Q p0 p1 = (afun tt E70 A70 Try.f70 (I70 p0 p1) [] Q) := by kernel_rfl
def H70 (Q : List V1 → List Ob → Prop) (p0 : K.ty (K.slice (4 : TypeId) K.bool)) (p1 : K.ty (K.int IntKind.i64)) : Prop := t70 Q p0 p1
theorem ok70 (Q : List V1 → List Ob → Prop) (p0 : K.ty (K.slice (4 : TypeId) K.bool)) (p1 : K.ty (K.int IntKind.i64)) (h : H70 Q p0 p1) : Of (afun tt E70 A70 Try.f70 (I70 p0 p1) [] Q) :=
  kcO (t70_eq Q p0 p1) (t70_mono (fun _ _ h => h) p0 p1 h)
theorem env70 : EnvOk Try.prog E70 := .cons spec75 (by kernel_rfl) <| .nil
theorem isIn_iff {n : Nat} {x : Int} : isIn n x = true ↔ bound x n := by
  unfold isIn bound
  by_cases h : 0 ≤ x <;> simp [h]
theorem spec70 : SpecOk Try.prog 70 sp70 := S2.ok tt_ok mixed env70 Try.func70 fun x y Q h => ok70 Q x y <| by
  unfold H70 t70; unfold F70 get at h
  refine brP_intro (fun c => ?_) (fun c => ?_)
  · simp_all
  · have c : isIn x.length y = true := by simpa using c
    exact ⟨isIn_iff.1 c, by simpa [c] using h⟩
end Go.AM
