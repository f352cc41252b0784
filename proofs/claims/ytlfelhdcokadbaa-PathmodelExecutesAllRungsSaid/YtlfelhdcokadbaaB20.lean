/- Functions of the program: what the laws let in. Conditions: none. -/
import Derived.Test.YtlfelhdcokadbaaD2
set_option linter.all false
namespace Go.AM
open Go.Proofs
-- f22 "busbar/busbarlaw20.example" [] -> ['24']
def A22 : Ann := []
def E22 : Env := []
def I22 : List V1 := []
def t22 (Q : List V1 → List Ob → Prop) : Prop :=
  Q [V1.agg [Lf.int IntKind.i64 (1 : Int), Lf.int IntKind.i64 (2 : Int), Lf.int IntKind.i64 (0 : Int), Lf.own (0 : Nat)]] [Ob.row (46 : TypeId) k45 (List.set (List.set (List.set (List.replicate (3 : Nat) (K.dflt k45)) (0 : Nat) (ByteArray.mk #[], List.set (List.replicate (1 : Nat) (K.dflt k74)) (0 : Nat) ((0 : Int), ((0 : Int), (0 : Int)), ByteArray.mk #[(76 : UInt8)], ByteArray.mk #[(82 : UInt8)]), [], ByteArray.mk #[(122 : UInt8)])) (1 : Nat) (ByteArray.mk #[], List.set (List.replicate (1 : Nat) (K.dflt k74)) (0 : Nat) ((0 : Int), ((0 : Int), (0 : Int)), ByteArray.mk #[(76 : UInt8)], ByteArray.mk #[(82 : UInt8)]), List.set (List.replicate (1 : Nat) (K.dflt k76)) (0 : Nat) ((0 : Int), (1 : Int), (0 : Int)), ByteArray.mk #[])) (2 : Nat) (ByteArray.mk #[(122 : UInt8)], List.set (List.replicate (1 : Nat) (K.dflt k74)) (0 : Nat) ((0 : Int), ((0 : Int), (0 : Int)), ByteArray.mk #[(76 : UInt8)], ByteArray.mk #[(82 : UInt8)]), List.set (List.replicate (1 : Nat) (K.dflt k76)) (0 : Nat) ((0 : Int), (1 : Int), (1 : Int)), ByteArray.mk #[]))]
theorem t22_mono {Q : List V1 → List Ob → Prop} {Q' : List V1 → List Ob → Prop} (hq : ∀ r h, Q r h → Q' r h) :
    t22 Q → t22 Q' :=
  hq _ _
theorem t22_eq (Q : List V1 → List Ob → Prop) :
    t22 Q = (afun tt E22 A22 Try.f22 (I22) [] Q) := by kernel_rfl
def H22 (Q : List V1 → List Ob → Prop) : Prop := t22 Q
theorem ok22 (Q : List V1 → List Ob → Prop) (h : H22 Q) : Of (afun tt E22 A22 Try.f22 (I22) [] Q) :=
  kcO (t22_eq Q) (t22_mono (fun _ _ h => h) h)
theorem env22 : EnvOk Try.prog E22 := .nil
theorem spec22 : SpecOk Try.prog 22 sp22 := S0.okS tt_ok mixed [k23] env22 Try.func22 fun Q h => ok22 _ h
end Go.AM
