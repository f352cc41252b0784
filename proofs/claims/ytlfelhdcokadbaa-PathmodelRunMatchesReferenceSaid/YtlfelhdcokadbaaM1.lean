/- What the law's row leans on, part 1: an abstract machine over loaded code, functions of the program and their specs. Conditions: none. -/
import Derived.Below
import Derived.Deep.Draws
import Derived.Laws.MakeOwn
import Derived.OrdersHeld
import Derived.KernelRfl
import Derived.Laws.Small
import Derived.Laws.Cover3
import Derived.Laws.RangeAny
import Derived.Laws.Strings
import Derived.Great.BuildSlice
import Derived.MapKept
set_option linter.all false
namespace Go.AM
open Go.RowKit

/-! ### kinds of data -/
/-- The kinds of deep data: what an element of a slice, or a whole argument, reads as. -/
inductive K where
  | int (k : IntKind) | bool | str | pair (a b : K) | slice (e : TypeId) (k : K)
  deriving DecidableEq
@[reducible] def K.ty : K → Type
  | .int _ => Int
  | .bool => Bool
  | .str => ByteArray
  | .pair a b => a.ty × b.ty
  | .slice _ k => List k.ty
def K.sz : K → Nat
  | .pair a b => a.sz + b.sz
  | _ => 1
def K.flat : K → Bool
  | .pair a b => a.flat && b.flat
  | .slice _ _ => false
  | _ => true
def K.dflt : (k : K) → k.ty
  | .int _ => (0 : Int)
  | .bool => false
  | .str => ByteArray.empty
  | .pair a b => (a.dflt, b.dflt)
  | .slice _ _ => []
/-- An element of a list, by an int. -/
def getE (k : K) (l : List k.ty) (i : Int) : k.ty := l.getD i.toNat k.dflt

/-! ### values -/
inductive Cap where
  | id (n : Nat) | imm (k : K) (x : k.ty)
/-- What a cell or a temporary holds. -/
inductive Lf where
  | undef                                            -- nothing is known
  | skip                                             -- the operation was passed over
  | int (k : IntKind) (x : Int)
  | bool (b : Bool)
  | str (s : ByteArray)
  | sl (e : TypeId) (k : K) (l : List k.ty)          -- a slice that is only read
  | nils                                             -- the nil slice
  | own (id : Nat)                                   -- a slice over a row of the frame's own
  | ptr (id off : Nat)                               -- into a box of the frame's own
  | ept (id : Nat) (i : Int) (sz off : Nat)          -- into an element (of sz cells) of a row of the frame's own
  | rp (k : K) (x : k.ty) (off : Nat)                -- into memory that is only read
  | nilp
  | clo (f : FuncId) (caps : List Cap)
  | mp (id : Nat)                                    -- a map of the frame's own
  | yld (l : Nat)                                    -- a loop's yield
inductive V1 where
  | one (l : Lf) | agg (ls : List Lf)
inductive V where
  | v (x : V1) | tup (xs : List V1)
inductive Ob where
  | box (t : TypeId) (cells : List Lf)
  | row (e : TypeId) (k : K) (l : List k.ty)
  | dead
  | iter (s : ByteArray) (pos : Nat)                 -- a walk over a string
  | map (l : List (ByteArray × Bool))                -- from strings to bools
  | frame (u : List Value) (cs : List V)             -- another frame's temporaries
  | raw (g : Nat) (o : Obj)                          -- a block as it is
structure St where
  slots : List V
  heap : List Ob
def V1.ls : V1 → List Lf
  | .one l => [l]
  | .agg ls => ls

def leaves : (k : K) → k.ty → List Lf
  | .int ik, x => [.int ik x]
  | .bool, b => [.bool b]
  | .str, s => [.str s]
  | .pair a b, x => leaves a x.1 ++ leaves b x.2
  | .slice e k, l => [.sl e k l]
/-- Cells read as data; what is left of them. -/
def unleaf : (k : K) → List Lf → Option (k.ty × List Lf)
  | .int ik, .int jk x :: r => if ik = jk then some (x, r) else none
  | .bool, .bool b :: r => some (b, r)
  | .str, .str s :: r => some (s, r)
  | .pair a b, ls =>
    match unleaf a ls with
    | some (x, r) => match unleaf b r with
      | some (y, r') => some ((x, y), r')
      | none => none
    | none => none
  | .slice e k, .sl e' k' l :: r => if e = e' then if h : k' = k then some (h ▸ l, r) else none else none
  | .slice _ _, .nils :: r => some ([], r)
  | _, _ => none

/-! ### the types' table -/
structure TI where
  agg : Bool := false
  zero : List Lf
  kd : Option K := none
  fields : List (Nat × Nat × Bool) := []
  elem : TypeId := 0
  len : Nat := 0
  bytes : Nat := 0
  kv : Option (TypeId × TypeId) := none
abbrev TT := List (TypeId × TI)
def tget : TT → TypeId → Option TI
  | [], _ => none
  | (t, i) :: r, u => if t = u then some i else tget r u
/-- A slice type's element kind. -/
def skind (T : TT) (t : TypeId) : Option (TypeId × K) :=
  match tget T t with
  | some i => match i.kd with
    | some (.slice e k) => some (e, k)
    | _ => none
  | none => none

/-! ### small steps in the strict style -/
def setK {α : Type} : List α → Nat → α → (List α → Prop) → Prop
  | [], _, _, Q => Q []
  | _ :: l, 0, v, Q => Q (v :: l)
  | x :: l, i + 1, v, Q => setK l i v fun l' => Q (x :: l')
def getK {α : Type} : List α → Nat → (α → Prop) → Prop
  | [], _, _ => False
  | x :: _, 0, Q => Q x
  | _ :: l, i + 1, Q => getK l i Q
def someK {α : Type} (o : Option α) (Q : α → Prop) : Prop :=
  match o with
  | some x => Q x
  | none => False
/-- A check on closed data. -/
def ifK (b : Bool) (X : Prop) : Prop :=
  match b with
  | true => X
  | false => False
def brP (b : Bool) (X Y : Prop) : Prop :=
  match b with
  | true => X
  | false => Y
theorem brP_intro {b : Bool} {X Y : Prop} (h1 : b = true → X) (h2 : b = false → Y) : brP b X Y := by
  cases b
  · exact h2 rfl
  · exact h1 rfl
def snocK {α : Type} : List α → α → Nat → (Nat → List α → Prop) → Prop
  | [], v, i, Q => Q i [v]
  | x :: l, v, i, Q => snocK l v (i + 1) fun j l' => Q j (x :: l')
/-- The same value, laid open to its constructors. -/
def lfK (l : Lf) (Q : Lf → Prop) : Prop :=
  match l with
  | .undef => Q .undef
  | .skip => Q .skip
  | .int k x => Q (.int k x)
  | .bool b => Q (.bool b)
  | .str s => Q (.str s)
  | .sl e k l => Q (.sl e k l)
  | .nils => Q .nils
  | .own i => Q (.own i)
  | .ptr i o => Q (.ptr i o)
  | .ept i n z o => Q (.ept i n z o)
  | .rp k x o => Q (.rp k x o)
  | .nilp => Q .nilp
  | .clo f cs => Q (.clo f cs)
  | .mp i => Q (.mp i)
  | .yld l => Q (.yld l)
def lfsK : List Lf → (List Lf → Prop) → Prop
  | [], Q => Q []
  | x :: r, Q => lfK x fun y => lfsK r fun s => Q (y :: s)
def v1K (v : V1) (Q : V1 → Prop) : Prop :=
  match v with
  | .one l => lfK l fun l => Q (.one l)
  | .agg ls => lfsK ls fun ls => Q (.agg ls)
def v1sK : List V1 → (List V1 → Prop) → Prop
  | [], Q => Q []
  | x :: r, Q => v1K x fun y => v1sK r fun s => Q (y :: s)
def vK (v : V) (Q : V → Prop) : Prop :=
  match v with
  | .v x => v1K x fun x => Q (.v x)
  | .tup xs => v1sK xs fun xs => Q (.tup xs)
def vsK : List V → (List V → Prop) → Prop
  | [], Q => Q []
  | x :: r, Q => vK x fun y => vsK r fun s => Q (y :: s)
def obK (o : Ob) (Q : Ob → Prop) : Prop :=
  match o with
  | .box t cs => lfsK cs fun cs => Q (.box t cs)
  | .row e k l => Q (.row e k l)
  | .dead => Q .dead
  | .iter s p => Q (.iter s p)
  | .map l => Q (.map l)
  | .frame u cs => vsK cs fun cs => Q (.frame u cs)
  | .raw g o => Q (.raw g o)
def obsK : List Ob → (List Ob → Prop) → Prop
  | [], Q => Q []
  | x :: r, Q => obK x fun y => obsK r fun s => Q (y :: s)
def stK (st : St) (Q : St → Prop) : Prop :=
  match st with
  | ⟨s, h⟩ => vsK s fun s => obsK h fun h => Q ⟨s, h⟩
/-- n places from off on. -/
def cutL {α : Type} (l : List α) (off n : Nat) : List α := (l.drop off).take n
def putL {α : Type} (l : List α) (off : Nat) (vs : List α) : List α := l.take off ++ vs ++ l.drop (off + vs.length)

def constV : Value → Option V1
  | .int k n => some (.one (.int k n))
  | .bool b => some (.one (.bool b))
  | .string s => some (.one (.str s))
  | .slice none 0 0 => some (.one .nils)
  | .pointer none => some (.one .nilp)
  | _ => some (.one .undef)

section
variable (T : TT)

def evK (st : St) (o : Operand) (Q : V → Prop) : Prop :=
  match o with
  | .tmp t => getK st.slots t Q
  | .const v => someK (constV v) fun x => Q (.v x)
  | _ => False
def ev1 (st : St) (o : Operand) (Q : V1 → Prop) : Prop :=
  evK st o fun v => match v with
    | .v x => Q x
    | .tup _ => False
def evL (st : St) (o : Operand) (Q : Lf → Prop) : Prop :=
  ev1 st o fun v => match v with
    | .one l => Q l
    | .agg _ => False
def evI (st : St) (o : Operand) (Q : IntKind → Int → Prop) : Prop :=
  evL st o fun v => match v with
    | .int k x => Q k x
    | _ => False

/-- The cells of a type at an address, read. -/
def shapeV (i : TI) (cs : List Lf) (Q : V1 → Prop) : Prop :=
  match i.agg with
  | true => Q (.agg (cutL cs 0 i.zero.length))
  | false => match cs with
    | x :: _ => Q (.one x)
    | [] => False
def loadK (st : St) (t : TypeId) (p : Lf) (Q : V1 → Prop) : Prop :=
  someK (tget T t) fun i =>
    match p with
    | .ptr id off => getK st.heap id fun o => match o with
      | .box _ cs => ifK (Nat.ble (off + i.zero.length) cs.length) <| shapeV i (cs.drop off) Q
      | _ => False
    | .ept id n sz off => getK st.heap id fun o => match o with
      | .row _ k l => ifK (Nat.beq sz k.sz && Nat.ble (off + i.zero.length) k.sz) <| shapeV i ((leaves k (getE k l n)).drop off) Q
      | _ => False
    | .rp k x off => ifK (Nat.ble (off + i.zero.length) k.sz) <| shapeV i ((leaves k x).drop off) Q
    | _ => False

/-- Slices of the frame's own, as data that is only read. -/
def borL (h : List Ob) : Lf → Option Lf
  | .own id => match h[id]? with
    | some (.row e k l) => some (.sl e k l)
    | _ => none
  | .ptr _ _ => none
  | .ept .. => none
  | .clo _ _ => none
  | .mp _ => none
  | .undef => none
  | .skip => none
  | l => some l
def borLs (h : List Ob) : List Lf → Option (List Lf)
  | [] => some []
  | x :: r => match borL h x with
    | some y => match borLs h r with
      | some s => some (y :: s)
      | none => none
    | none => none
/-- Cells as data of kind k, nothing left. -/
def deep (h : List Ob) (k : K) (ls : List Lf) : Option k.ty :=
  match borLs h ls with
  | some cs => match unleaf k cs with
    | some (x, []) => some x
    | _ => none
  | none => none
def ownIds : List Lf → List Nat
  | [] => []
  | .own id :: r => id :: ownIds r
  | _ :: r => ownIds r

/-! ### what happens to references -/
/-- A row becomes memory that is only read. -/
def sealL (id : Nat) (e : TypeId) (k : K) (l : List k.ty) : Lf → Lf
  | .own i => if i = id then .sl e k l else .own i
  | .ept i a z b => if i = id then .undef else .ept i a z b
  | x => x
/-- References to a row go. -/
def killL (id : Nat) : Lf → Lf
  | .own i => if i = id then .undef else .own i
  | .ept i a z b => if i = id then .undef else .ept i a z b
  | x => x
def mapV1 (f : Lf → Lf) : V1 → V1
  | .one l => .one (f l)
  | .agg ls => .agg (ls.map f)
def mapV (f : Lf → Lf) : V → V
  | .v x => .v (mapV1 f x)
  | .tup xs => .tup (xs.map (mapV1 f))
def mapOb (f : Lf → Lf) : Ob → Ob
  | .box t cs => .box t (cs.map f)
  | .frame u cs => .frame u (cs.map (mapV f))
  | o => o
def sealSt (id : Nat) (st : St) : Option St :=
  match st.heap[id]? with
  | some (.row e k l) => some ⟨st.slots.map (mapV (sealL id e k l)), (st.heap.map (mapOb (sealL id e k l))).set id .dead⟩
  | _ => none
def sealAll : List Nat → St → St
  | [], st => st
  | id :: r, st => match sealSt id st with
    | some st' => sealAll r st'
    | none => sealAll r st
/-- Sealed, if the flag says so. -/
def sinkSt (b : Bool) (ids : List Nat) (st : St) : St :=
  match b with
  | true => st
  | false => sealAll ids st
def killSt (id : Nat) (o : Ob) (st : St) : St := ⟨st.slots.map (mapV (killL id)), (st.heap.map (mapOb (killL id))).set id o⟩

/-! ### what is still in use, in one order -/
def idsL : Lf → List Nat
  | .own i => [i]
  | .ptr i _ => [i]
  | .mp i => [i]
  | .ept i .. => [i]
  | .clo _ cs => cs.filterMap fun c => match c with | .id n => some n | _ => none
  | _ => []
def idsV1 (v : V1) : List Nat := v.ls.flatMap idsL
def idsV : V → List Nat
  | .v x => idsV1 x
  | .tup xs => xs.flatMap idsV1
def idsOb : Ob → List Nat
  | .box _ cs => cs.flatMap idsL
  | .frame _ cs => cs.flatMap idsV
  | _ => []
def addNew : List Nat → List Nat → List Nat
  | acc, [] => acc
  | acc, x :: r => if acc.contains x then addNew acc r else addNew (acc ++ [x]) r
def reach (h : List Ob) : Nat → List Nat → List Nat
  | 0, acc => acc
  | n + 1, acc => reach h n (addNew acc (acc.flatMap fun i => match h[i]? with | some o => idsOb o | none => []))
def place : List Nat → Nat → Option Nat
  | [], _ => none
  | x :: r, i => if x = i then some 0 else (place r i).map (· + 1)
def capR (L : List Nat) : Cap → Option Cap
  | .id n => (place L n).map .id
  | c => some c
def renL (L : List Nat) : Lf → Lf
  | .own i => match place L i with | some j => .own j | none => .undef
  | .mp i => match place L i with | some j => .mp j | none => .undef
  | .ptr i o => match place L i with | some j => .ptr j o | none => .undef
  | .ept i a z o => match place L i with | some j => .ept j a z o | none => .undef
  | .clo f cs => match cs.mapM (capR L) with | some ds => .clo f ds | none => .undef
  | x => x
def nodupB : List Nat → Bool
  | [] => true
  | x :: r => !r.contains x && nodupB r
def keepFrom (keep : List Nat) : Nat → List V → List V
  | _, [] => []
  | n, x :: r => (if keep.contains n then x else .v (.one .undef)) :: keepFrom keep (n + 1) r
def renHeap (L : List Nat) (h : List Ob) : List Nat → Option (List Ob)
  | [] => some []
  | i :: r => match h[i]? with
    | some o => match renHeap L h r with
      | some s => some (mapOb (renL L) o :: s)
      | none => none
    | none => none
/-- Only the named temporaries stay, and what they lead to, numbered anew. -/
def normK (keep : List Nat) (st : St) (Q : St → Prop) : Prop :=
  let s := keepFrom keep 0 st.slots
  let L := reach st.heap 2 (addNew [] (s.flatMap idsV))
  ifK (nodupB L) (someK (renHeap L st.heap L) fun h => stK ⟨s.map (mapV (renL L)), h⟩ Q)

/-! ### calls -/
/-- What a callee does: arguments, the caller's objects that are handed over; results, objects behind the call. -/
abbrev PT := List V1 → List Ob → (List V1 → List Ob → Prop) → Prop
abbrev Env := List (FuncId × PT)
def elook : Env → FuncId → Option PT
  | [], _ => none
  | (f, p) :: r, g => if f = g then some p else elook r g
/-- An argument as data that is only read: in the type's own form where the type is deep. -/
def capA : Cap → Option Lf
  | .imm k x => some (.rp k x 0)
  | .id _ => none
def capB (T : TT) (h : List Ob) : Cap → Option Cap
  | .imm k x => some (.imm k x)
  | .id n => match h[n]? with
    | some (.box t cs) => match tget T t with
      | some i => match i.kd with
        | some k => match deep h k cs with
          | some x => some (.imm k x)
          | none => none
        | none => none
      | none => none
    | _ => none
def argD (T : TT) (h : List Ob) (t : TypeId) (v : V1) : Option V1 :=
  match tget T t with
  | some i => match i.kd with
    | some k => match deep h k v.ls with
      | some x => match v with
        | .agg _ => some (.agg (leaves k x))
        | .one _ => match leaves k x with
          | [y] => some (.one y)
          | _ => none
      | none => none
    | none => none
  | none => none
def argV (T : TT) (h : List Ob) (t : TypeId) (v : V1) : Option V1 :=
  match v with
  | .one (.clo f cs) => match cs.mapM (capB T h) with
    | some ds => some (.one (.clo f ds))
    | none => none
  | .one (.rp k x o) => some (.one (.rp k x o))
  | v => argD T h t v
def argsK (T : TT) (st : St) : List Operand → List TypeId → (List V1 → List Nat → Prop) → Prop
  | [], _, Q => Q [] []
  | o :: r, t :: ts, Q => ev1 st o fun v => someK (argV T st.heap t v) fun x => argsK T st r ts fun xs ids => Q (x :: xs) (ownIds v.ls ++ ids)
  | _ :: _, [], _ => False
def flatL : Lf → Bool
  | .int _ _ => true
  | .bool _ => true
  | .str _ => true
  | .own _ => true
  | .ptr _ _ => true
  | .nils => true
  | _ => false
def flatOb : Ob → Bool
  | .row _ k _ => k.flat
  | .dead => true
  | .box _ cs => cs.all flatL
  | _ => false
def shiftC (n : Nat) : Cap → Cap
  | .id i => .id (i + n)
  | c => c
def shiftL (n : Nat) : Lf → Lf
  | .own i => .own (i + n)
  | .mp i => .mp (i + n)
  | .ptr i o => .ptr (i + n) o
  | .ept i a z o => .ept (i + n) a z o
  | .clo f cs => .clo f (cs.map (shiftC n))
  | x => x
/-- The objects that a call made, behind those that were there; what shares memory with an argument is sealed. -/
def backK (st : St) (ids : List Nat) (caps : Bool) (res : List V1) (h' : List Ob) (Q : V → St → Prop) : Prop :=
  let fl := res.all (fun v => v.ls.all flatL) && h'.all flatOb
  ifK (fl || !caps) <|
  v1sK (res.map (mapV1 (shiftL st.heap.length))) fun rs =>
  stK (sinkSt fl ids st) fun st1 => stK ⟨st1.slots, st1.heap ++ h'.map (mapOb (shiftL st.heap.length))⟩ fun st2 =>
  match rs with
  | [x] => Q (.v x) st2
  | [] => Q (.v (.one .undef)) st2
  | xs => Q (.tup xs) st2
def isClo : Operand → St → Bool
  | .tmp t, st => match st.slots[t]? with
    | some (.v (.one (.clo _ _))) => true
    | _ => false
  | _, _ => false

section
variable (T : TT) (E : Env)
def callK (st : St) (c : Call) (Q : V → St → Prop) : Prop :=
  match c.callee with
  | .value (.func f) => someK (elook E f) fun sp => argsK T st c.args.toList c.argTypes.toList fun xs ids =>
      sp xs [] fun res h' => backK st ids (c.args.toList.any (isClo · st)) res h' Q
  | .value (.tmp t) => getK st.slots t fun v => match v with
    | .v (.one (.clo f cs)) => someK (elook E f) fun sp => argsK T st c.args.toList c.argTypes.toList fun xs ids =>
        someK (cs.mapM (capB T st.heap)) fun ds => someK (ds.mapM capA) fun ps =>
          sp (xs ++ ps.map .one) [] fun res h' => backK st ids true res h' Q
    | _ => False
  | _ => False

def cmpI : BinOp → Int → Int → Option Bool
  | .eql, x, y => some (x == y)
  | .neq, x, y => some (x != y)
  | .lss, x, y => some (decide (x < y))
  | .leq, x, y => some (decide (x ≤ y))
  | .gtr, x, y => some (decide (x > y))
  | .geq, x, y => some (decide (x ≥ y))
  | _, _, _ => none
def isBoolT (T : TT) (t : TypeId) : Bool :=
  match tget T t with
  | some i => match i.kd with
    | some .bool => true
    | _ => false
  | none => false
def binK (bt sl : Bool) (o : BinOp) (a b : Lf) (Q : Lf → Prop) : Prop :=
  match a, b with
  | .int k x, .int k' y => ifK (decide (k = k')) <| match o with
    | .add => Q (.int k (k.wrap (x + y)))
    | .sub => Q (.int k (k.wrap (x - y)))
    | .mul => Q (.int k (k.wrap (x * y)))
    | .quo => y ≠ 0 ∧ Q (.int k (k.wrap (x.tdiv y)))
    | o => someK (cmpI o x y) fun r => Q (.bool r)
  | .str x, .str y => match o with
    | .eql => Q (.bool (x.toList == y.toList))
    | .neq => Q (.bool (x.toList != y.toList))
    | _ => False
  | .bool x, .bool y => ifK bt <| match o with
    | .eql => Q (.bool (x == y))
    | .neq => Q (.bool (x != y))
    | _ => False
  | .sl _ _ l, .nils => ifK sl <| match o with       -- an empty one may be nil
    | .eql => ∀ b : Bool, (b = true → l = []) → Q (.bool b)
    | .neq => ∀ b : Bool, (b = true → l = []) → Q (.bool (!b))
    | _ => False
  | _, _ => False
def bound (x : Int) (n : Nat) : Prop := 0 ≤ x ∧ x < (n : Int)
/-- One place after the other. -/
def idxB (x : Int) (Q : Nat → Prop) : Nat → Nat → Prop
  | 0, _ => True
  | n + 1, j => brP (decide (x = (j : Int))) (Q j) (idxB x Q n (j + 1))
def optI (st : St) (o : Option Operand) (d : Int) (Q : Int → Prop) : Prop :=
  match o with
  | none => Q d
  | some x => evI st x fun _ y => Q y
/-- Every cell of it is known to be the value of one cell. -/
def isDef : V1 → Bool
  | .one .undef => false
  | .one .skip => false
  | .one _ => true
  | .agg ls => ls.all fun | .skip => false | _ => true
def partsK (st : St) : List (Nat × Operand) → (List (Nat × V1) → Prop) → Prop
  | [], Q => Q []
  | (i, o) :: r, Q => ev1 st o fun v => partsK st r fun ps => Q ((i, v) :: ps)
def fillL (fs : List (Nat × Nat × Bool)) : List (Nat × V1) → List Lf → Option (List Lf)
  | [], cs => some cs
  | (i, v) :: r, cs => match fs[i]? with
    | some (off, n, _) => if isDef v = true ∧ v.ls.length = n ∧ off + n ≤ cs.length then fillL fs r (putL cs off v.ls) else none
    | none => none
def fillR (h : List Ob) (k : K) : List (Nat × V1) → List k.ty → Option (List k.ty)
  | [], l => some l
  | (i, v) :: r, l => match deep h k v.ls with
    | some x => if i < l.length then fillR h k r (l.set i x) else none
    | none => none
def partIds : List (Nat × V1) → List Nat
  | [] => []
  | (_, v) :: r => ownIds v.ls ++ partIds r
/-- A new object, behind the others. -/
def newK (st : St) (o : Ob) (Q : Nat → St → Prop) : Prop :=
  match st with
  | ⟨s, h⟩ => obK o fun o => snocK h o 0 fun i h => Q i ⟨s, h⟩
def lenOf (h : List Ob) : Lf → Option Int
  | .sl _ _ l => some (l.length : Int)
  | .own id => match h[id]? with
    | some (.row _ _ l) => some (l.length : Int)
    | _ => none
  | .nils => some 0
  | .str s => some (s.size : Int)
  | _ => none
def lenTy (T : TT) (t : TypeId) : Lf → Bool
  | .str _ => match tget T t with
    | some i => match i.kd with
      | some .str => true
      | _ => false
    | none => false
  | _ => (skind T t).isSome
/-- The bytes that a row of n elements takes. -/
def room (T : TT) (e : TypeId) (n : Nat) : Prop := someK (tget T e) fun i => n * i.bytes ≤ 140737488355328

def storeK (st : St) (t : TypeId) (p : Lf) (v : V1) (Q : St → Prop) : Prop :=
  someK (tget T t) fun i => ifK (isDef v && Nat.beq v.ls.length i.zero.length) <|
    match p with
    | .ptr id off => getK st.heap id fun o => match o with
      | .box bt cs => ifK (Nat.ble (off + v.ls.length) cs.length) <| lfsK (putL cs off v.ls) fun cs => setK st.heap id (.box bt cs) fun h => match st with
        | ⟨s, _⟩ => Q ⟨s, h⟩
      | _ => False
    | .ept id n sz off => getK st.heap id fun o => match o with
      | .row e k l => let ls := putL (leaves k (getE k l n)) off v.ls
          ifK (Nat.beq sz k.sz && Nat.ble (off + v.ls.length) k.sz && (k.flat || !(ownIds ls).contains id)) <|
          someK (deep st.heap k ls) fun x =>
            stK (sinkSt k.flat (ownIds ls) st) fun st1 => match st1 with
              | ⟨s, h⟩ => setK h id (.row e k (l.set n.toNat x)) fun h => Q ⟨s, h⟩
      | _ => False
    | _ => False

def appendK (st : St) (s x : Lf) (t : TypeId) (Q : V → St → Prop) : Prop :=
  someK (skind T t) fun ek => let e := ek.1; let k := ek.2;
    someK (deep st.heap (.slice e k) [x]) fun l2 =>
      match s with
      | .own id => getK st.heap id fun o => match o with
        | .row e' k' l => ifK (k.flat || !(ownIds [x]).contains id) <| if he : e' = e ∧ k' = k then
              room T e (l.length + l2.length) ∧
              stK (killSt id (.row e k ((he.2 ▸ l : List k.ty) ++ l2)) (sinkSt k.flat (ownIds [x]) st)) fun st => Q (.v (.one (.own id))) st
            else False
        | _ => False
      | .nils => room T e l2.length ∧
          stK (sinkSt k.flat (ownIds [x]) st) fun st => newK st (.row e k l2) fun id st2 => Q (.v (.one (.own id))) st2
      | _ => False

/-- copy, of flat data, into a row of the frame's own. -/
def copyK (st : St) (d x : Lf) (t : TypeId) (Q : V → St → Prop) : Prop :=
  someK (skind T t) fun ek => let e := ek.1; let k := ek.2;
    ifK k.flat <| someK (deep st.heap (.slice e k) [x]) fun l2 =>
      match d with
      | .own id => getK st.heap id fun o => match o with
        | .row e' k' l => if he : e' = e ∧ k' = k then
              setK st.heap id (.row e k (l2.take l.length ++ ((he.2 ▸ l : List k.ty).drop l2.length))) fun h => match st with
                | ⟨s, _⟩ => Q (.v (.one (.int .i64 (min l2.length l.length : Nat)))) ⟨s, h⟩
            else False
        | _ => False
      | _ => False

/-- A byte of a string, as a number. -/
def byteAt (s : ByteArray) (i : Nat) : Int := ((s.data.getD i 0).toNat : Int)
/-- Whether it is below 128. -/
def lowB (s : ByteArray) (i : Nat) : Bool := Nat.blt (s.data.getD i 0).toNat 128
def isStrT (T : TT) (t : TypeId) : Bool :=
  match tget T t with
  | some i => match i.kd with
    | some .str => true
    | _ => false
  | none => false
def isMapT (T : TT) (t : TypeId) : Bool :=
  match tget T t with
  | some i => i.kv.isSome
  | none => false
/-- A map's entry. -/
def mget : List (ByteArray × Bool) → ByteArray → Bool
  | [], _ => false
  | (k, v) :: r, s => bif s == k then v else mget r s
def mset : List (ByteArray × Bool) → ByteArray → Bool → List (ByteArray × Bool)
  | [], s, b => [(s, b)]
  | (k, v) :: r, s, b => bif s == k then (s, b) :: r else (k, v) :: mset r s b
def mapPutK (st : St) (t : TypeId) (m k x : Operand) (Q : V → St → Prop) : Prop :=
  evL st m fun l => evL st k fun k => evL st x fun x => match l, k, x with
    | .mp id, .str s, .bool b => getK st.heap id fun ob => match ob with
      | .map l => ifK (isMapT T t) <| setK st.heap id (.map (mset l s b)) fun h => match st with
        | ⟨sl, _⟩ => Q (.v (.one .skip)) ⟨sl, h⟩
      | _ => False
    | _, _, _ => False

/-- A row of the frame's own without its head. -/
def sliceOwnK (st : St) (t : TypeId) (x : Operand) (c : Value) (Q : V → St → Prop) : Prop :=
  evL st x fun s => match s, c with
    | .own id, .int _ a => getK st.heap id fun ob => match ob with
      | .row e k l => someK (skind T t) fun ek => ifK (Nat.beq ek.2.sz k.sz) <| (0 ≤ a ∧ a ≤ (l.length : Int) ∧ 0 < l.length) ∧
          stK (killSt id (.row e k (l.drop a.toNat)) st) fun st => Q (.v (.one (.own id))) st
      | _ => False
    | _, _ => False

def sliceK (st : St) (t : TypeId) (x : Operand) (lo hi : Option Operand) (Q : V → St → Prop) : Prop :=
  evL st x fun s => match s with
    | .sl e k l => someK (skind T t) fun ek => ifK (Nat.beq ek.2.sz k.sz) <| optI st lo 0 fun a => optI st hi (l.length : Int) fun b => (0 ≤ a ∧ a ≤ b ∧ b ≤ (l.length : Int)) ∧ Q (.v (.one (.sl e k ((l.take b.toNat).drop a.toNat)))) st
    | _ => False
def aop (o : Oper) (st : St) (Q : V → St → Prop) : Prop :=
  match o.op with
  | .move x => evK st x fun v => Q v st
  | .assign x => evK st x fun v => match v with
    | .v (.one .nils) => match skind T o.type with
      | some (e, k) => newK st (.row e k []) fun id st => Q (.v (.one (.own id))) st
      | none => Q v st
    | v => Q v st
  | .pick c a b => evL st c fun l => match l with
    | .bool d => brP d (evK st a fun v => Q v st) (evK st b fun v => Q v st)
    | _ => False
  | .alloc t => someK (tget T t) fun i => newK st (.box t i.zero) fun id st => Q (.v (.one (.ptr id 0))) st
  | .box t x => ev1 st x fun v => ifK (isDef v) <| newK st (.box t v.ls) fun id st => Q (.v (.one (.ptr id 0))) st
  | .load t p => evL st p fun p => loadK T st t p fun v => Q (.v v) st
  | .store t p x => evL st p fun p => ev1 st x fun v => storeK T st t p v fun st => Q (.v (.one .skip)) st
  | .fieldAddr t p j => evL st p fun p => someK (tget T t) fun i => ifK (Nat.beq i.len 0) <| getK i.fields j fun f => match p with
    | .ptr id off => Q (.v (.one (.ptr id (off + f.1)))) st
    | .ept id n z off => Q (.v (.one (.ept id n z (off + f.1)))) st
    | .rp k x off => Q (.v (.one (.rp k x (off + f.1)))) st
    | _ => False
  | .field t x j => ev1 st x fun v => someK (tget T t) fun i => ifK (Nat.beq i.len 0) <| getK i.fields j fun f => match v with
    | .agg cs => ifK (Nat.ble (f.1 + f.2.1) cs.length) <| match f.2.2 with
      | true => Q (.v (.agg (cutL cs f.1 f.2.1))) st
      | false => match cs.drop f.1 with
        | y :: _ => Q (.v (.one y)) st
        | [] => False
    | _ => False
  | .indexAddr t s x => evL st s fun s => evI st x fun _ n => match s with
    | .sl _ k l => someK (skind T t) fun ek => ifK (Nat.beq ek.2.sz k.sz) <| bound n l.length ∧ Q (.v (.one (.rp k (getE k l n) 0))) st
    | .own id => getK st.heap id fun o => match o with
      | .row _ k l => someK (skind T t) fun ek => ifK (Nat.beq ek.2.sz k.sz) <| bound n l.length ∧ Q (.v (.one (.ept id n k.sz 0))) st
      | _ => False
    | .nils => False
    | .ptr id off => someK (tget T t) fun i => someK (tget T i.elem) fun ie => bound n i.len ∧ idxB n (fun m => Q (.v (.one (.ptr id (off + m * ie.zero.length)))) st) i.len 0
    | _ => False
  | .index t x y => ev1 st x fun v => evI st y fun _ n => someK (tget T t) fun i => match v with
    | .one (.str s) => ifK (isStrT T t) <| bound n s.size ∧ Q (.v (.one (.int .u8 (byteAt s n.toNat)))) st
    | .agg cs => someK (tget T i.elem) fun ie => ifK (cs.length == i.len * ie.zero.length) <| bound n i.len ∧
        idxB n (fun j => match ie.agg with
          | true => Q (.v (.agg (cutL cs (j * ie.zero.length) ie.zero.length))) st
          | false => match cs.drop (j * ie.zero.length) with
            | y :: _ => Q (.v (.one y)) st
            | [] => False) i.len 0
    | _ => False
  | .binOp b t x y _ => evL st x fun x => evL st y fun y => binK (isBoolT T t) (skind T t).isSome b x y fun r => Q (.v (.one r)) st
  | .unOp .not _ x => evL st x fun x => match x with
    | .bool b => Q (.v (.one (.bool (!b)))) st
    | _ => False
  | .extract x j => evK st x fun v => match v with
    | .tup xs => getK xs j fun x => Q (.v x) st
    | _ => False
  | .build t ps => someK (tget T t) fun i => partsK st ps.toList fun vs => someK (fillL i.fields vs i.zero) fun cs => ifK i.agg <| Q (.v (.agg cs)) st
  | .buildSlice t n ps => someK (skind T t) fun ek => partsK st ps.toList fun vs =>
      someK (fillR st.heap ek.2 vs (List.replicate n ek.2.dflt)) fun l =>
        stK (sinkSt ek.2.flat (partIds vs) st) fun st => ifK (Nat.ble (n * ek.2.sz) 16777216) <| newK st (.row ek.1 ek.2 l) fun id st => Q (.v (.one (.own id))) st
  | .makeSlice t n c => someK (skind T t) fun ek => evI st n fun _ n => evI st c fun _ c =>
      (0 ≤ n ∧ n ≤ c ∧ c ≤ 17592186044416) ∧ room T ek.1 c.toNat ∧ newK st (.row ek.1 ek.2 (List.replicate n.toNat ek.2.dflt)) fun id st => Q (.v (.one (.own id))) st
  | .slice t x (some (.const c)) none none => sliceOwnK T st t x c Q
  | .slice t x lo hi none => sliceK T st t x lo hi Q
  | .makeFunc (.func f) first caps => ifK (first.size == 0) <| someK (caps.toList.mapM fun c => match c with
      | .tmp t => match st.slots[t]? with
        | some (.v (.one (.ptr id 0))) => some (Cap.id id)
        | some (.v (.one (.rp k x 0))) => some (Cap.imm k x)
        | _ => none
      | _ => none) fun cs => Q (.v (.one (.clo f cs))) st
  | .nilCheck x => evL st x fun l => match l with
    | .ptr id off => Q (.v (.one (.ptr id off))) st
    | _ => False
  | .range t x => evL st x fun l => match l with
    | .str s => ifK (isStrT T t) <| newK st (.iter s 0) fun id st => Q (.v (.one (.ptr id 0))) st
    | _ => False
  | .next x true => evL st x fun p => match p with
    | .ptr id 0 => getK st.heap id fun ob => match ob with
      | .iter s pos => brP (decide (pos < s.size))
          (brP (lowB s pos)
            (setK st.heap id (.iter s (pos + 1)) fun h => match st with
              | ⟨sl, _⟩ => Q (.tup [.one (.bool true), .one (.int .i64 pos), .one (.int .i32 (byteAt s pos))]) ⟨sl, h⟩)
            (∀ r : Int, 128 ≤ r → ∀ m : Nat, setK st.heap id (.iter s (pos + m)) fun h => match st with
              | ⟨sl, _⟩ => Q (.tup [.one (.bool true), .one (.int .i64 pos), .one (.int .i32 r)]) ⟨sl, h⟩))
          (Q (.tup [.one (.bool false)]) st)
      | _ => False
    | _ => False
  | .makeMap t none => ifK (isMapT T t) <| newK st (.map []) fun id st => Q (.v (.one (.mp id))) st
  | .insert t m k x => mapPutK T st t m k x Q
  | .mapUpdate t m k x => mapPutK T st t m k x Q
  | .lookup t x k false => evL st x fun l => evL st k fun k => match l, k with
    | .mp id, .str s => getK st.heap id fun ob => match ob with
      | .map l => ifK (isMapT T t) <| Q (.v (.one (.bool (mget l s)))) st
      | _ => False
    | _, _ => False
  | .call c => match c.callee with
    | .builtin .len => match c.args.toList, c.argTypes.toList with
      | [x], t :: _ => evL st x fun x => ifK (lenTy T t x) <| someK (lenOf st.heap x) fun n => Q (.v (.one (.int .i64 n))) st
      | _, _ => False
    | .builtin .append => match c.args.toList, c.argTypes.toList with
      | [s, x], [t, t'] => ifK (t == t') <| evL st s fun s => evL st x fun x => appendK T st s x t Q
      | _, _ => False
    | .builtin .copy => match c.args.toList, c.argTypes.toList with
      | [d, x], [t, t'] => ifK (t == t') <| evL st d fun d => evL st x fun x => copyK T st d x t Q
      | _, _ => False
    | _ => callK T E st c Q
  | _ => False

/-! ### code -/
/-- The parts of a code, to name them. -/
def _root_.Go.Code.a : Code → Code
  | .seq x _ => x
  | .cond _ x _ => x
  | .block _ x => x
  | .loop x => x
  | x => x
def _root_.Go.Code.b : Code → Code
  | .seq _ y => y
  | .cond _ _ y => y
  | x => x
def _root_.Go.Func.code (f : Func) : Code := f.body.getD .skip
inductive Ex where
  | normal | exit (id : Nat) | ret
def putK (st : St) (d : Option Tmp) (v : V) (Q : St → Prop) : Prop :=
  match d with
  | none => Q st
  | some t => match st with
    | ⟨s, h⟩ => vK v fun v => setK s t v fun s => Q ⟨s, h⟩
def dstOf (all : List Oper) (g : Nat) : Option Tmp := (all[g]?).bind (·.dst)
def runK (all : List Oper) (o : Oper) (st : St) (Q : St → Prop) : Prop :=
  match o.guard with
  | none => aop T E o st fun v st => putK st o.dst v Q
  | some (g, want) => someK (dstOf all g) fun t => getK st.slots t fun v => match v with
    | .v (.one (.bool b)) =>
      brP b
        (putK st (some t) (.v (.one (.bool true))) fun st => match want with
          | true => aop T E o st fun v st => putK st o.dst v Q
          | false => putK st o.dst (.v (.one .skip)) Q)
        (putK st (some t) (.v (.one (.bool false))) fun st => match want with
          | false => aop T E o st fun v st => putK st o.dst v Q
          | true => putK st o.dst (.v (.one .skip)) Q)
    | .v (.one .skip) => putK st o.dst (.v (.one .skip)) Q
    | _ => False
def opsK (all : List Oper) : List Oper → St → (St → Prop) → Prop
  | [], st, Q => Q st
  | o :: r, st, Q => runK T E all o st fun st => opsK all r st Q

/-! #### a region that draws its order -/
inductive Cls where
  | pure | load | act
  deriving DecidableEq
def clsOf (o : Oper) : Cls :=
  match o.op with
  | .slice _ _ (some (.const _)) none none => .act
  | .move _ | .pick .. | .fieldAddr .. | .field .. | .indexAddr .. | .index .. | .binOp .. | .unOp .. | .extract .. | .build .. | .slice .. | .makeFunc .. => .pure
  | .assign _ => .act
  | .load .. => .load
  | .call c => match c.callee with
    | .builtin .len => .pure
    | _ => .act
  | _ => .act
def isLoad (o : Oper) : Bool := match clsOf o with | .load => true | _ => false
def isAct (o : Oper) : Bool := match clsOf o with | .act => true | _ => false
/-- An operation that leaves every block that stands as it is. -/
def tame (o : Oper) : Bool :=
  match o.op with
  | .store .. => false
  | .next .. => false
  | .insert .. => false
  | .mapUpdate .. => false
  | .call c => match c.callee with
    | .builtin .append => false
    | .builtin .copy => false
    | _ => true
  | _ => true
/-- An operation that may go first: it only reads, and what may go before it neither touches its temporaries nor, if it loads, what stands in memory. -/
def firstOf (ops : Array Oper) (listed : Array Bool) (i : Nat) : Bool :=
  match ops[i]? with
  | some o => !isAct o && Region.free .any ops listed i && (!isLoad o || (List.range ops.size).all fun j => j == i || listed.getD j true || match ops[j]? with
    | some oj => tame oj || oj.after.any fun e => Region.binds .any e && e.on == i
    | none => true)
  | none => false
def allK : List Nat → (Nat → Prop) → Prop
  | [], _ => True
  | [i], F => F i
  | i :: j :: r, F => F i ∧ allK (j :: r) F
/-- The box that a load's pointer leads into. -/
def boxTag (st : St) (p : Operand) : Option TypeId :=
  match p with
  | .tmp t => match st.slots[t]? with
    | some (.v (.one (.ptr id _))) => match st.heap[id]? with
      | some (.box bt _) => some bt
      | _ => none
    | _ => none
  | _ => none
/-- An operation that leaves every block of a type as it is. -/
def safeFor (bt : TypeId) (o : Oper) : Bool :=
  tame o || match o.op with
  | .call c => match c.callee with
    | .builtin .append => match c.argTypes.toList with
      | [t, _] => match skind T t with
        | some (e, _) => !(Nat.beq e bt)
        | none => false
      | _ => false
    | _ => false
  | _ => false
/-- A load out of a box that may go first: what may go before it leaves the box as it is. -/
def firstBox (st : St) (ops : Array Oper) (listed : Array Bool) (i : Nat) : Bool :=
  match ops[i]? with
  | some o => match o.op with
    | .load _ p => match boxTag st p with
      | some bt => Region.free .any ops listed i && (List.range ops.size).all fun j => j == i || listed.getD j true || match ops[j]? with
        | some oj => safeFor T bt oj || oj.after.any fun e => Region.binds .any e && e.on == i
        | none => true
      | none => false
    | _ => false
  | none => false
/-- The same as ordK, with loads out of boxes ahead. -/
def ordB (ops : Array Oper) (Q : St → Prop) : Nat → Array Bool → St → Prop
  | 0, listed, st =>
    match Region.ready .any ops listed with
    | [] => Q st
    | _ => False
  | n + 1, listed, st =>
    match Region.ready .any ops listed with
    | [] => Q st
    | i :: r => match (i :: r).find? (firstOf ops listed) with
      | some i => someK ops[i]? fun o => runK T E ops.toList o st fun st => ordB ops Q n (listed.setIfInBounds i true) st
      | none => match (i :: r).find? (firstBox T st ops listed) with
        | some i => someK ops[i]? fun o => runK T E ops.toList o st fun st => ordB ops Q n (listed.setIfInBounds i true) st
        | none => allK (i :: r) fun i => someK ops[i]? fun o => runK T E ops.toList o st fun st => ordB ops Q n (listed.setIfInBounds i true) st
/-- One that may go first; else whichever of those that are ready. -/
def ordK (ops : Array Oper) (Q : St → Prop) : Nat → Array Bool → St → Prop
  | 0, listed, st =>
    match Region.ready .any ops listed with
    | [] => Q st
    | _ => False
  | n + 1, listed, st =>
    match Region.ready .any ops listed with
    | [] => Q st
    | i :: r => match (i :: r).find? (firstOf ops listed) with
      | some i => someK ops[i]? fun o => runK T E ops.toList o st fun st => ordK ops Q n (listed.setIfInBounds i true) st
      | none => allK (i :: r) fun i => someK ops[i]? fun o => runK T E ops.toList o st fun st => ordK ops Q n (listed.setIfInBounds i true) st

/-- What stays at a loop's head, and behind it, by the block that holds it. -/
abbrev Keep := List Nat × List Nat × List Nat
abbrev Ann := List (Nat × Keep)
def annOf : Ann → Nat → Option Keep
  | [], _ => none
  | (b, l) :: r, c => if b = c then some l else annOf r c
def loopP (body : St → (Ex → St → Prop) → Prop) (keep : Keep) : Nat → St → (Ex → St → Prop) → Prop
  | 0, _, _ => False
  | n + 1, st, Q => body st fun ex st' => match ex with
    | .normal => normK keep.1 st' fun st'' => loopP body keep n st'' Q
    | .exit i => normK keep.2.1 st' fun st'' => Q (.exit i) st''
    | .ret => normK keep.2.2 st' fun st'' => Q .ret st''
/-- What goes on behind a round. -/
def loopC (body : St → (Ex → St → Prop) → Prop) (keep : Keep) (n : Nat) (Q : Ex → St → Prop) : Ex → St → Prop := fun ex st' =>
  match ex with
  | .normal => normK keep.1 st' fun st'' => loopP body keep n st'' Q
  | .exit i => normK keep.2.1 st' fun st'' => Q (.exit i) st''
  | .ret => normK keep.2.2 st' fun st'' => Q .ret st''
theorem loopP_succ {body : St → (Ex → St → Prop) → Prop} {keep : Keep} {n : Nat} {st : St} {Q : Ex → St → Prop}
    (h : body st (loopC body keep n Q)) : loopP body keep (n + 1) st Q := h
/-- What goes on behind the first of two codes; behind a block. -/
def seqC (wb : St → (Ex → St → Prop) → Prop) (Q : Ex → St → Prop) : Ex → St → Prop := fun ex st =>
  match ex with
  | .normal => wb st Q
  | .exit i => Q (.exit i) st
  | .ret => Q .ret st
def blkC (id : Nat) (Q : Ex → St → Prop) : Ex → St → Prop := fun ex st =>
  match ex with
  | .normal => Q .normal st
  | .exit i => if i = id then Q .normal st else Q (.exit i) st
  | .ret => Q .ret st
def awp (A : Ann) : Code → Nat → St → (Ex → St → Prop) → Prop
  | .skip, _, st, Q => Q .normal st
  | .region _ ops false, _, st, Q => opsK T E ops.toList ops.toList st fun st => Q .normal st
  | .region _ ops true, _, st, Q => ifK (Region.noSelect ops) <| match annOf A 100000 with
    | none => ordK T E ops (fun st => Q .normal st) ops.size (Array.replicate ops.size false) st
    | some _ => ordB T E ops (fun st => Q .normal st) ops.size (Array.replicate ops.size false) st
  | .seq a b, c, st, Q => awp A a c st (seqC (awp A b c) Q)
  | .cond (.tmp t) x y, c, st, Q => getK st.slots t fun v => match v with
    | .v (.one (.bool b)) => brP b (putK st (some t) (.v (.one (.bool true))) fun st => awp A x c st Q) (putK st (some t) (.v (.one (.bool false))) fun st => awp A y c st Q)
    | _ => False
  | .block id x, _, st, Q => awp A x id st (blkC id Q)
  | .loop x, c, st, Q => someK (annOf A c) fun keep => ∃ n, normK keep.1 st fun st => loopP (awp A x c) keep n st Q
  | .exit id, _, st, Q => Q (.exit id) st
  | .ret, _, st, Q => Q .ret st
  | _, _, _, _ => False


def resK (st : St) : List ResultVar → (List V1 → Prop) → Prop
  | [], Q => Q []
  | .tmp t :: r, Q => ev1 st (.tmp t) fun v => resK st r fun vs => Q (v :: vs)
  | .cell p t :: r, Q => evL st (.tmp p) fun l => loadK T st t l fun v => resK st r fun vs => Q (v :: vs)
/-- Results, and what they lead to. -/
def exportK (n : Nat) (st : St) (vs : List V1) (Q : List V1 → List Ob → Prop) : Prop :=
  let L := reach st.heap 2 (addNew (List.range n) (vs.flatMap idsV1))
  ifK (nodupB L) <| someK (renHeap L st.heap L) fun h => v1sK (vs.map (mapV1 (renL L))) fun vs => obsK h fun h => Q vs h
/-- What goes on behind a body. -/
def topC (fn : Func) (n : Nat) (Q : List V1 → List Ob → Prop) : Ex → St → Prop := fun ex st =>
  match ex with
  | .exit _ => False
  | _ => resK T st fn.results.toList fun vs => exportK n st vs Q
def afun (A : Ann) (fn : Func) : PT := fun args h Q =>
  someK fn.body fun c => ifK (Nat.ble args.length fn.ntmps) <|
    stK ⟨args.map .v ++ List.replicate (fn.ntmps - args.length) (.v (.one .undef)), h⟩ fun st => awp T E A c 0 st (topC T fn h.length Q)
/-- A temporary or a heap, by what is known of it. -/
def spl : Nat → Nat → List (Nat × V) → List V
  | 0, _, _ => []
  | n + 1, i, l => ((l.find? (·.1 == i)).map (·.2)).getD (.v (.one .undef)) :: spl n (i + 1) l
def sp (n : Nat) (l : List (Nat × V)) (h : List Ob) : St := ⟨spl n 0 l, h⟩
theorem kc {A B : Prop} (e : A = B) (h : A) : B := e ▸ h
end
end
end Go.AM
namespace Go.AM
open Go.RowKit

/-! ### two lists, place by place -/
def All2 {α β : Type} (R : α → β → Prop) : List α → List β → Prop
  | [], [] => True
  | a :: l, b :: m => R a b ∧ All2 R l m
  | _, _ => False
section
variable {α β : Type} {R R' : α → β → Prop}
theorem All2.length : ∀ {l : List α} {m : List β}, All2 R l m → l.length = m.length
  | [], [], _ => rfl
  | _ :: l, _ :: m, h => by simp [All2.length h.2]
theorem All2.mono (hm : ∀ a b, R a b → R' a b) : ∀ {l : List α} {m : List β}, All2 R l m → All2 R' l m
  | [], [], _ => trivial
  | _ :: _, _ :: _, h => ⟨hm _ _ h.1, All2.mono hm h.2⟩
theorem All2.mono_mem : ∀ {l : List α} {m : List β}, (∀ a b, a ∈ l → R a b → R' a b) → All2 R l m → All2 R' l m
  | [], [], _, _ => trivial
  | _ :: _, _ :: _, hm, h => ⟨hm _ _ (by simp) h.1, All2.mono_mem (fun a b ha => hm a b (by simp [ha])) h.2⟩
theorem All2.mono_mem' : ∀ {l : List α} {m : List β}, (∀ a b, b ∈ m → R a b → R' a b) → All2 R l m → All2 R' l m
  | [], [], _, _ => trivial
  | _ :: _, _ :: _, hm, h => ⟨hm _ _ (by simp) h.1, All2.mono_mem' (fun a b hb => hm a b (by simp [hb])) h.2⟩
theorem All2.append : ∀ {l : List α} {m : List β} {l' : List α} {m' : List β}, All2 R l m → All2 R l' m' → All2 R (l ++ l') (m ++ m')
  | [], [], _, _, _, h' => h'
  | _ :: _, _ :: _, _, _, h, h' => ⟨h.1, All2.append h.2 h'⟩
theorem All2.get : ∀ {l : List α} {m : List β} {i : Nat} {a : α}, All2 R l m → l[i]? = some a → ∃ b, m[i]? = some b ∧ R a b
  | [], [], _, _, _, h => by simp at h
  | _ :: _, b :: _, 0, _, h, e => by simp at e; subst e; exact ⟨b, by simp, h.1⟩
  | _ :: l, _ :: m, i + 1, a, h, e => by
    have := All2.get (l := l) (m := m) (i := i) (a := a) h.2 (by simpa using e)
    simpa using this
theorem All2.take : ∀ {l : List α} {m : List β} (n : Nat), All2 R l m → All2 R (l.take n) (m.take n)
  | [], [], n, _ => by simp [All2]
  | _ :: _, _ :: _, 0, _ => by simp [All2]
  | _ :: _, _ :: _, n + 1, h => ⟨h.1, All2.take n h.2⟩
theorem All2.drop : ∀ {l : List α} {m : List β} (n : Nat), All2 R l m → All2 R (l.drop n) (m.drop n)
  | [], [], n, _ => by simp [All2]
  | _ :: _, _ :: _, 0, h => h
  | _ :: _, _ :: _, n + 1, h => All2.drop n h.2
theorem All2.map {γ : Type} (f : γ → α) : ∀ {l : List γ} {m : List β}, All2 (fun a b => R (f a) b) l m → All2 R (l.map f) m
  | [], [], _ => trivial
  | _ :: _, _ :: _, h => ⟨h.1, All2.map f h.2⟩
theorem All2.set : ∀ {l : List α} {m : List β} (i : Nat) {a : α} {b : β}, All2 R l m → R a b → All2 R (l.set i a) (m.set i b)
  | [], [], _, _, _, _, _ => trivial
  | _ :: _, _ :: _, 0, _, _, h, hr => ⟨hr, h.2⟩
  | _ :: _, _ :: _, i + 1, _, _, h, hr => ⟨h.1, All2.set i h.2 hr⟩
theorem All2.split : ∀ {l l' : List α} {m : List β}, All2 R (l ++ l') m → ∃ m1 m2, m = m1 ++ m2 ∧ All2 R l m1 ∧ All2 R l' m2
  | [], _, m, h => ⟨[], m, rfl, trivial, h⟩
  | _ :: l, l', b :: m, h => by
    obtain ⟨m1, m2, e, h1, h2⟩ := All2.split (l := l) (l' := l') (m := m) h.2
    exact ⟨b :: m1, m2, by simp [e], ⟨h.1, h1⟩, h2⟩
theorem All2.put {l vs : List α} {m us : List β} (off : Nat) (h : All2 R l m) (hv : All2 R vs us) : All2 R (putL l off vs) (putL m off us) := by
  unfold putL
  rw [hv.length]
  exact ((h.take off).append hv).append (h.drop _)
theorem All2.nil_left {m : List β} (h : All2 R [] m) : m = [] := by
  cases m with
  | nil => rfl
  | cons b m => exact h.elim
theorem All2.of_get : ∀ {l : List α} {m : List β}, l.length = m.length → (∀ (i : Nat) a b, l[i]? = some a → m[i]? = some b → R a b) → All2 R l m
  | [], [], _, _ => trivial
  | a :: l, b :: m, hl, h => ⟨h 0 a b rfl rfl, All2.of_get (by simpa using hl) fun i x y hx hy => h (i + 1) x y (by simpa using hx) (by simpa using hy)⟩
end

/-! ### data in memory -/
def oneCells (cs : List Value) : Prop := ∀ u ∈ cs, u.oneCell' = true
def RdRow {α : Type} (R : α → List Value → Prop) (sz : Nat) : List α → List Value → Prop
  | [], cs => cs = []
  | x :: l, cs => ∃ c d, cs = c ++ d ∧ c.length = sz ∧ R x c ∧ RdRow R sz l d
/-- A slice that is only read: nil, or a stretch of a row whose block is allowed. -/
def RdS {α : Type} (R : α → List Value → Prop) (w : World) (Ok : Nat → Prop) (e : TypeId) (sz : Nat) (l : List α) (v : Value) : Prop :=
  (l = [] ∧ ∃ a, v = .slice a 0 0) ∨
  ∃ g off cap cur t fr, v = .slice (some ⟨g, off, none⟩) l.length cap ∧ Ok g ∧ w.heap[g]? = some (.cells cur t fr) ∧ l.length ≤ cap ∧ off + l.length * sz ≤ cur.size ∧
    RdRow R sz l ((cur.toList.drop off).take (l.length * sz))
def RdC (w : World) (Ok : Nat → Prop) : (k : K) → k.ty → List Value → Prop
  | .int ik, x, cs => cs = [.int ik x]
  | .bool, b, cs => cs = [.bool b]
  | .str, s, cs => cs = [.string s]
  | .pair a b, x, cs => ∃ c d, cs = c ++ d ∧ RdC w Ok a x.1 c ∧ RdC w Ok b x.2 d
  | .slice e k, l, cs => ∃ v, cs = [v] ∧ RdS (RdC w Ok k) w Ok e k.sz l v
theorem K.sz_pos : ∀ k : K, 0 < k.sz
  | .int _ => Nat.one_pos
  | .bool => Nat.one_pos
  | .str => Nat.one_pos
  | .pair a b => Nat.lt_of_lt_of_le (K.sz_pos a) (Nat.le_add_right _ _)
  | .slice _ _ => Nat.one_pos
theorem RdC.len {w : World} {Ok : Nat → Prop} : ∀ {k : K} {x : k.ty} {cs : List Value}, RdC w Ok k x cs → cs.length = k.sz
  | .int _, _, _, h => by rw [show _ = [_] from h]; rfl
  | .bool, _, _, h => by rw [show _ = [_] from h]; rfl
  | .str, _, _, h => by rw [show _ = [_] from h]; rfl
  | .pair a b, x, cs, h => by
    obtain ⟨c, d, rfl, h1, h2⟩ := h
    rw [List.length_append, RdC.len h1, RdC.len h2]; rfl
  | .slice _ _, _, _, h => by obtain ⟨v, rfl, _⟩ := h; rfl
theorem RdC.one {w : World} {Ok : Nat → Prop} : ∀ {k : K} {x : k.ty} {cs : List Value}, RdC w Ok k x cs → oneCells cs
  | .int _, _, _, h => by rw [show _ = [_] from h]; simp [oneCells, Value.oneCell']
  | .bool, _, _, h => by rw [show _ = [_] from h]; simp [oneCells, Value.oneCell']
  | .str, _, _, h => by rw [show _ = [_] from h]; simp [oneCells, Value.oneCell']
  | .pair a b, x, cs, h => by
    obtain ⟨c, d, rfl, h1, h2⟩ := h
    intro u hu
    rcases List.mem_append.1 hu with hu | hu
    · exact RdC.one h1 u hu
    · exact RdC.one h2 u hu
  | .slice _ _, _, _, h => by
    obtain ⟨v, rfl, h⟩ := h
    rcases h with ⟨_, a, rfl⟩ | ⟨g, off, cap, cur, t, fr, rfl, _⟩ <;> simp [oneCells, Value.oneCell']
section
variable {α : Type} {R R' : α → List Value → Prop} {sz : Nat}
theorem RdRow.mono (hm : ∀ x c, R x c → R' x c) : ∀ {l : List α} {cs : List Value}, RdRow R sz l cs → RdRow R' sz l cs
  | [], _, h => h
  | _ :: _, _, ⟨c, d, e, hc, h1, h2⟩ => ⟨c, d, e, hc, hm _ _ h1, RdRow.mono hm h2⟩
theorem RdRow.len : ∀ {l : List α} {cs : List Value}, RdRow R sz l cs → cs.length = l.length * sz
  | [], _, h => by rw [show _ = [] from h]; simp
  | _ :: l, _, ⟨c, d, e, hc, _, h2⟩ => by rw [e, List.length_append, hc, RdRow.len h2, List.length_cons, Nat.add_mul]; omega
theorem RdRow.append : ∀ {l : List α} {cs : List Value} {l' : List α} {cs' : List Value}, RdRow R sz l cs → RdRow R sz l' cs' → RdRow R sz (l ++ l') (cs ++ cs')
  | [], _, _, _, h, h' => by rw [show _ = [] from h]; exact h'
  | _ :: _, _, _, _, ⟨c, d, e, hc, h1, h2⟩, h' => ⟨c, d ++ _, by rw [e, List.append_assoc], hc, h1, RdRow.append h2 h'⟩
theorem RdRow.get : ∀ {l : List α} {cs : List Value} {i : Nat} {x : α}, RdRow R sz l cs → l[i]? = some x → R x ((cs.drop (i * sz)).take sz)
  | [], _, _, _, _, h => by simp at h
  | _ :: _, _, 0, _, ⟨c, d, e, hc, h1, _⟩, h => by
    simp at h; subst h
    have : (c ++ d).take sz = c := by rw [← hc, List.take_left]
    simpa [e, this] using h1
  | _ :: l, cs, i + 1, x, ⟨c, d, e, hc, _, h2⟩, h => by
    have := RdRow.get (l := l) (cs := d) (i := i) (x := x) h2 (by simpa using h)
    have e2 : (c ++ d).drop ((i + 1) * sz) = d.drop (i * sz) := by
      rw [Nat.add_mul, Nat.one_mul, Nat.add_comm, ← hc, List.drop_append]; simp
    rw [e, e2]; exact this
theorem RdRow.drop : ∀ {l : List α} {cs : List Value} (i : Nat), RdRow R sz l cs → RdRow R sz (l.drop i) (cs.drop (i * sz))
  | [], _, i, h => by rw [show _ = [] from h]; simp [RdRow]
  | _ :: _, _, 0, h => by simpa using h
  | _ :: l, cs, i + 1, ⟨c, d, e, hc, _, h2⟩ => by
    have e2 : (c ++ d).drop ((i + 1) * sz) = d.drop (i * sz) := by
      rw [Nat.add_mul, Nat.one_mul, Nat.add_comm, ← hc, List.drop_append]; simp
    rw [e, e2]; exact RdRow.drop i h2
theorem RdRow.take : ∀ {l : List α} {cs : List Value} (i : Nat), RdRow R sz l cs → RdRow R sz (l.take i) (cs.take (i * sz))
  | [], _, i, h => by rw [show _ = [] from h]; simp [RdRow]
  | _ :: _, _, 0, h => by simp [RdRow]
  | _ :: l, cs, i + 1, ⟨c, d, e, hc, h1, h2⟩ => by
    have e2 : (c ++ d).take ((i + 1) * sz) = c ++ d.take (i * sz) := by
      rw [Nat.add_mul, Nat.one_mul, Nat.add_comm, ← hc, List.take_append, List.take_of_length_le (Nat.le_add_right _ _)]; simp
    rw [e, e2]; exact ⟨c, _, rfl, hc, h1, RdRow.take i h2⟩
theorem RdRow.set : ∀ {l : List α} {cs : List Value} {i : Nat} {x : α} {c : List Value}, RdRow R sz l cs → i < l.length → R x c → c.length = sz → RdRow R sz (l.set i x) (putL cs (i * sz) c)
  | [], _, _, _, _, _, h, _, _ => by simp at h
  | _ :: _, _, 0, x, c', ⟨c, d, e, hc, h1, h2⟩, _, hx, hl => by
    refine ⟨c', d, ?_, hl, hx, h2⟩
    simp [putL, e, hl, ← hc]
  | _ :: l, cs, i + 1, x, c', ⟨c, d, e, hc, h1, h2⟩, hi, hx, hl => by
    refine ⟨c, putL d (i * sz) c', ?_, hc, h1, RdRow.set h2 (by simpa using hi) hx hl⟩
    have e1 : (c ++ d).take ((i + 1) * sz) = c ++ d.take (i * sz) := by
      rw [Nat.add_mul, Nat.one_mul, Nat.add_comm, ← hc, List.take_append, List.take_of_length_le (Nat.le_add_right _ _)]; simp
    have e2 : (c ++ d).drop ((i + 1) * sz + c'.length) = d.drop (i * sz + c'.length) := by
      rw [Nat.add_mul, Nat.one_mul, Nat.add_comm (i * sz), Nat.add_assoc, ← hc, List.drop_append]; simp
    simp only [putL, e, e1, e2, List.append_assoc]
theorem RdRow.one (hR : ∀ x c, R x c → oneCells c) : ∀ {l : List α} {cs : List Value}, RdRow R sz l cs → oneCells cs
  | [], _, h => by rw [show _ = [] from h]; simp [oneCells]
  | _ :: _, _, ⟨c, d, e, _, h1, h2⟩ => by
    intro u hu
    rw [e] at hu
    rcases List.mem_append.1 hu with hu | hu
    · exact hR _ _ h1 u hu
    · exact RdRow.one hR h2 u hu
theorem RdRow.replicate {x : α} {c : List Value} (hx : R x c) (hc : c.length = sz) : ∀ n, RdRow R sz (List.replicate n x) (List.replicate n c).flatten
  | 0 => by simp [RdRow]
  | n + 1 => ⟨c, (List.replicate n c).flatten, by simp [List.replicate_succ], hc, hx, RdRow.replicate hx hc n⟩
end

/-- What is allowed stays as it is, and allowed. -/
structure Stay (w w' : World) (Ok Ok' : Nat → Prop) : Prop where
  ok : ∀ g, Ok g → Ok' g
  blk : ∀ g o, Ok g → w.heap[g]? = some o → w'.heap[g]? = some o
theorem Stay.refl (w : World) (Ok : Nat → Prop) : Stay w w Ok Ok := ⟨fun _ h => h, fun _ _ _ h => h⟩
theorem RdS.mono {α : Type} {R R' : α → List Value → Prop} {w w' : World} {Ok Ok' : Nat → Prop} (hs : Stay w w' Ok Ok') (hm : ∀ x c, R x c → R' x c) {e : TypeId} {sz : Nat} {l : List α} {v : Value}
    (h : RdS R w Ok e sz l v) : RdS R' w' Ok' e sz l v := by
  rcases h with h | ⟨g, off, cap, cur, t, fr, hv, ho, hg, hc, hf, hr⟩
  · exact .inl h
  · exact .inr ⟨g, off, cap, cur, t, fr, hv, hs.ok g ho, hs.blk g _ ho hg, hc, hf, hr.mono hm⟩
theorem RdC.mono {w w' : World} {Ok Ok' : Nat → Prop} (hs : Stay w w' Ok Ok') : ∀ {k : K} {x : k.ty} {cs : List Value}, RdC w Ok k x cs → RdC w' Ok' k x cs
  | .int _, _, _, h => h
  | .bool, _, _, h => h
  | .str, _, _, h => h
  | .pair a b, x, cs, ⟨c, d, e, h1, h2⟩ => ⟨c, d, e, RdC.mono hs h1, RdC.mono hs h2⟩
  | .slice e k, l, cs, ⟨v, hv, h⟩ => ⟨v, hv, h.mono hs fun _ _ => RdC.mono hs⟩

/-! ### a row of one's own -/
def OwnsAt (w : World) (e : TypeId) (sz : Nat) (v : Value) (n : Nat) (xs : List Value) : Prop :=
  xs.length = n * sz ∧ ((v = .slice none 0 0 ∧ n = 0) ∨
    ∃ g o cap cur, v = .slice (some ⟨g, o, none⟩) n cap ∧ w.heap[g]? = some (.cells cur e (0, 0)) ∧ n ≤ cap ∧ cap ≤ maxLen ∧ o + cap * sz ≤ cur.size ∧ (cur.toList.drop o).take (n * sz) = xs)
theorem OwnsAt.nil (w : World) (e : TypeId) (sz : Nat) : OwnsAt w e sz (.slice none 0 0) 0 [] := ⟨by simp, .inl ⟨rfl, rfl⟩⟩
theorem OwnsAt.of {w : World} {e : TypeId} {sz : Nat} {v : Value} {n : Nat} {xs : List Value} (h : w.ownsRow 0 e sz v n xs) : OwnsAt w e sz v n xs := by
  obtain ⟨h1, h2⟩ := h
  refine ⟨h1, h2.imp (fun h => h) ?_⟩
  rintro ⟨g, cap, cur, hv, _, hg, hn, hm, hs, ht⟩
  exact ⟨g, 0, cap, cur, hv, hg, hn, hm, by omega, by rw [List.drop_zero]; exact ht⟩
theorem OwnsAt.lt {w : World} {e : TypeId} {sz : Nat} {v : Value} {n : Nat} {xs : List Value} (h : OwnsAt w e sz v n xs) {g : Nat} (hg : v.ownBlock = some g) : g < w.heap.size := by
  rcases h.2 with ⟨rfl, _⟩ | ⟨g', o, cap, cur, rfl, hc, _⟩
  · simp [Value.ownBlock] at hg
  · simp [Value.ownBlock] at hg; subst hg; exact (Array.getElem?_eq_some_iff.1 hc).1
/-! ### leaves, values, objects -/
/-- Block numbers of a value that stands for an object. -/
def blkOf : Value → Option Nat
  | .slice (some a) _ _ => some a.block
  | .pointer (some a) => some a.block
  | .map (some g) => some g
  | _ => none
section
variable (w : World) (Ok : Nat → Prop) (β : List Value)
def RelPtr (id off : Nat) (v : Value) : Prop := ∃ g, β[id]? = some (.pointer (some ⟨g, 0, none⟩)) ∧ v = .pointer (some ⟨g, off, none⟩)
def RelRp (k : K) (x : k.ty) (off : Nat) (v : Value) : Prop :=
  ∃ g o cur e fr, v = .pointer (some ⟨g, o + off, none⟩) ∧ Ok g ∧ w.heap[g]? = some (.cells cur e fr) ∧ o + k.sz ≤ cur.size ∧ RdC w Ok k x ((cur.toList.drop o).take k.sz)
def RelCap : Cap → Value → Prop
  | .id n, v => RelPtr β n 0 v
  | .imm k x, v => RelRp w Ok k x 0 v
def RelL : Lf → Value → Prop
  | .undef, v => v.oneCell' = true
  | .skip, v => v = undef
  | .int k x, v => v = .int k x
  | .bool b, v => v = .bool b
  | .str s, v => v = .string s
  | .sl e k l, v => RdS (RdC w Ok k) w Ok e k.sz l v
  | .nils, v => v = .slice none 0 0
  | .own id, v => β[id]? = some v ∧ ∃ a n c, v = .slice a n c
  | .ptr id off, v => RelPtr β id off v
  | .ept id i sz off, v => ∃ g o n c, β[id]? = some (.slice (some ⟨g, o, none⟩) n c) ∧ 0 ≤ i ∧ i < (n : Int) ∧ v = .pointer (some ⟨g, o + i.toNat * sz + off, none⟩)
  | .rp k x off, v => RelRp w Ok k x off v
  | .nilp, v => v = .pointer none
  | .clo f caps, v => ∃ vs : Array Value, v = .func (.func f) #[] vs ∧ All2 (RelCap w Ok β) caps vs.toList
  | .mp id, v => β[id]? = some v ∧ ∃ g, v = .map (some g)
  | .yld l, v => v = .func (.yield l) #[] #[]
def RelV1 : V1 → Value → Prop
  | .one .undef, _ => True
  | .one l, v => RelL w Ok β l v
  | .agg ls, v => ∃ vs : Array Value, v = .agg vs ∧ All2 (RelL w Ok β) ls vs.toList
def RelV : V → Value → Prop
  | .v x, v => RelV1 w Ok β x v
  | .tup xs, v => ∃ vs : Array Value, v = .tuple vs ∧ All2 (RelV1 w Ok β) xs vs.toList
def RelO : Ob → Value → Prop
  | .box t cs, v => ∃ g cur, v = .pointer (some ⟨g, 0, none⟩) ∧ w.heap[g]? = some (.cells cur t (0, 0)) ∧ All2 (RelL w Ok β) cs cur.toList
  | .row e k l, v => ∃ xs, OwnsAt w e k.sz v l.length xs ∧ RdRow (RdC w Ok k) k.sz l xs
  | .dead, v => blkOf v = none
  | .iter s pos, v => ∃ g, v = .pointer (some ⟨g, 0, none⟩) ∧ w.heap[g]? = some (.stringIter s pos)
  | .map l, v => ∃ g es clock, v = .map (some g) ∧ w.heap[g]? = some (.map es clock) ∧ es.toList.map (fun e : MapEntry => (e.key, e.val)) = l.map fun p => (Value.string p.1, Value.bool p.2)
  | .frame u cs, v => v = undef ∧ All2 (RelV w Ok β) cs u
  | .raw g o, v => v = .pointer (some ⟨g, 0, none⟩) ∧ w.heap[g]? = some o
/-- The heap. -/
structure RelH (heap : List Ob) : Prop where
  objs : All2 (RelO w Ok β) heap β
  dist : ∀ (i j : Nat) v u g, β[i]? = some v → β[j]? = some u → blkOf v = some g → blkOf u = some g → i = j
  lt : ∀ v g, v ∈ β → blkOf v = some g → g < w.heap.size
  okLt : ∀ g, Ok g → g < w.heap.size
  okNot : ∀ v g, v ∈ β → blkOf v = some g → ¬ Ok g
end
section
variable {w w' : World} {Ok Ok' : Nat → Prop} {β β' : List Value}
theorem RelL.def1 {l : Lf} {v : Value} (h : RelL w Ok β l v) (hs : l ≠ .skip) : v.oneCell' = true := by
  cases l with
  | skip => exact absurd rfl hs
  | undef => exact h
  | sl e k l =>
    rcases h with ⟨_, a, rfl⟩ | ⟨g, off, cap, cur, t, fr, rfl, _⟩ <;> rfl
  | own id => obtain ⟨_, a, n, c, rfl⟩ := h; rfl
  | ptr id off => obtain ⟨g, _, rfl⟩ := h; rfl
  | ept id i sz off => obtain ⟨g, o, n, c, _, _, _, rfl⟩ := h; rfl
  | rp k x off => obtain ⟨g, o, cur, e, fr, rfl, _⟩ := h; rfl
  | clo f caps => obtain ⟨vs, rfl, _⟩ := h; rfl
  | mp id => obtain ⟨_, g, rfl⟩ := h; rfl
  | _ => rw [show v = _ from h]; rfl
theorem RelV1.of {l : Lf} {v : Value} (h : RelL w Ok β l v) : RelV1 w Ok β (.one l) v := by
  cases l <;> first | trivial | exact h
theorem RelV1.to {l : Lf} {v : Value} (h : RelV1 w Ok β (.one l) v) (hl : l ≠ .undef) : RelL w Ok β l v := by
  cases l <;> first | exact absurd rfl hl | exact h
/-- The world turns and the names of objects change: what a leaf says goes over. -/
theorem RelRp.mono (hs : Stay w w' Ok Ok') {k : K} {x : k.ty} {off : Nat} {v : Value} (h : RelRp w Ok k x off v) : RelRp w' Ok' k x off v := by
  obtain ⟨g, o, cur, e, fr, hv, ho, hg, hc, hr⟩ := h
  exact ⟨g, o, cur, e, fr, hv, hs.ok g ho, hs.blk g _ ho hg, hc, hr.mono hs⟩
theorem RelCap.mono (hs : Stay w w' Ok Ok') (hb : ∀ (i : Nat) v, β[i]? = some v → β'[i]? = some v) {c : Cap} {v : Value} (h : RelCap w Ok β c v) : RelCap w' Ok' β' c v := by
  cases c with
  | id n => obtain ⟨g, h1, h2⟩ := h; exact ⟨g, hb _ _ h1, h2⟩
  | imm k x => exact RelRp.mono hs h
theorem RelL.mono (hs : Stay w w' Ok Ok') (hb : ∀ (i : Nat) v, β[i]? = some v → β'[i]? = some v) {l : Lf} {v : Value} (h : RelL w Ok β l v) : RelL w' Ok' β' l v := by
  cases l with
  | sl e k l => exact RdS.mono (e := e) hs (fun _ _ => RdC.mono hs) h
  | own id => exact ⟨hb _ _ h.1, h.2⟩
  | ptr id off => obtain ⟨g, h1, h2⟩ := h; exact ⟨g, hb _ _ h1, h2⟩
  | ept id i sz off => obtain ⟨g, o, n, c, h1, h2⟩ := h; exact ⟨g, o, n, c, hb _ _ h1, h2⟩
  | rp k x off => exact RelRp.mono hs h
  | clo f caps => obtain ⟨vs, h1, h2⟩ := h; exact ⟨vs, h1, h2.mono fun _ _ => RelCap.mono hs hb⟩
  | mp id => exact ⟨hb _ _ h.1, h.2⟩
  | _ => exact h
theorem RelV1.mono (hs : Stay w w' Ok Ok') (hb : ∀ (i : Nat) v, β[i]? = some v → β'[i]? = some v) {l : V1} {v : Value} (h : RelV1 w Ok β l v) : RelV1 w' Ok' β' l v := by
  cases l with
  | one l =>
    by_cases hl : l = .undef
    · subst hl; trivial
    · exact .of (RelL.mono hs hb (h.to hl))
  | agg ls => obtain ⟨vs, h1, h2⟩ := h; exact ⟨vs, h1, h2.mono fun _ _ => RelL.mono hs hb⟩
theorem RelV.mono (hs : Stay w w' Ok Ok') (hb : ∀ (i : Nat) v, β[i]? = some v → β'[i]? = some v) {l : V} {v : Value} (h : RelV w Ok β l v) : RelV w' Ok' β' l v := by
  cases l with
  | v x => exact RelV1.mono hs hb h
  | tup xs => obtain ⟨vs, h1, h2⟩ := h; exact ⟨vs, h1, h2.mono fun _ _ => RelV1.mono hs hb⟩
theorem RelO.mono (hs : Stay w w' Ok Ok') (hb : ∀ (i : Nat) v, β[i]? = some v → β'[i]? = some v) {o : Ob} {v : Value} (hk : ∀ g, blkOf v = some g → w'.heap[g]? = w.heap[g]?)
    (h : RelO w Ok β o v) : RelO w' Ok' β' o v := by
  cases o with
  | box t cs =>
    obtain ⟨g, cur, hv, hg, hc⟩ := h
    exact ⟨g, cur, hv, by rw [hk g (by simp [hv, blkOf])]; exact hg, hc.mono fun _ _ => RelL.mono hs hb⟩
  | row e k l =>
    obtain ⟨xs, ho, hr⟩ := h
    refine ⟨xs, ⟨ho.1, ?_⟩, hr.mono fun _ _ => RdC.mono hs⟩
    rcases ho.2 with h | ⟨g, o, cap, cur, hv, hg, r⟩
    · exact .inl h
    · exact .inr ⟨g, o, cap, cur, hv, by rw [hk g (by simp [hv, blkOf])]; exact hg, r⟩
  | dead => exact h
  | iter s pos => obtain ⟨g, hv, hg⟩ := h; exact ⟨g, hv, by rw [hk g (by simp [hv, blkOf])]; exact hg⟩
  | map l => obtain ⟨g, es, ck, hv, hg, hl⟩ := h; exact ⟨g, es, ck, hv, by rw [hk g (by simp [hv, blkOf])]; exact hg, hl⟩
  | frame u cs => exact ⟨h.1, h.2.mono fun _ _ => RelV.mono hs hb⟩
  | raw g o => obtain ⟨hv, hg⟩ := h; exact ⟨hv, by rw [hk g (by simp [hv, blkOf])]; exact hg⟩
/-- What a row says of its value. -/
theorem RelO.row_val {e : TypeId} {k : K} {l : List k.ty} {v : Value} (h : RelO w Ok β (.row e k l) v) : ∃ a c, v = .slice a l.length c := by
  obtain ⟨xs, ho, _⟩ := h
  rcases ho.2 with ⟨hv, hn⟩ | ⟨g, o, cap, cur, hv, _⟩
  · exact ⟨none, 0, by rw [hv, hn]⟩
  · exact ⟨_, _, hv⟩
end
end Go.AM
namespace Go.AM
open Go.RowKit

/-! ### the strict style, read off -/
theorem setK_eq {α : Type} : ∀ (l : List α) (i : Nat) (v : α) (Q : List α → Prop), setK l i v Q = Q (l.set i v)
  | [], _, _, _ => rfl
  | _ :: _, 0, _, _ => rfl
  | x :: l, i + 1, v, Q => by simp only [setK, setK_eq l i v, List.set_cons_succ]
theorem getK_iff {α : Type} : ∀ {l : List α} {i : Nat} {Q : α → Prop}, getK l i Q → ∃ x, l[i]? = some x ∧ Q x
  | [], _, _, h => h.elim
  | x :: _, 0, _, h => ⟨x, by simp, h⟩
  | _ :: l, i + 1, Q, h => by
    obtain ⟨x, h1, h2⟩ := getK_iff (l := l) (i := i) (Q := Q) h
    exact ⟨x, by simpa using h1, h2⟩
theorem someK_iff {α : Type} {o : Option α} {Q : α → Prop} (h : someK o Q) : ∃ x, o = some x ∧ Q x := by
  cases o with
  | none => exact h.elim
  | some x => exact ⟨x, rfl, h⟩
theorem ifK_iff {b : Bool} {X : Prop} (h : ifK b X) : b = true ∧ X := by
  cases b with
  | false => exact h.elim
  | true => exact ⟨rfl, h⟩
theorem snocK_eq {α : Type} : ∀ (l : List α) (v : α) (i : Nat) (Q : Nat → List α → Prop), snocK l v i Q = Q (i + l.length) (l ++ [v])
  | [], _, _, _ => rfl
  | x :: l, v, i, Q => by
    simp only [snocK, snocK_eq l v (i + 1), List.length_cons, List.cons_append]
    rw [show i + 1 + l.length = i + (l.length + 1) by omega]
@[simp] theorem lfK_eq (l : Lf) (Q : Lf → Prop) : lfK l Q = Q l := by cases l <;> rfl
@[simp] theorem lfsK_eq : ∀ (l : List Lf) (Q : List Lf → Prop), lfsK l Q = Q l
  | [], _ => rfl
  | x :: r, Q => by simp only [lfsK, lfK_eq, lfsK_eq r]
@[simp] theorem v1K_eq (v : V1) (Q : V1 → Prop) : v1K v Q = Q v := by cases v <;> simp [v1K]
@[simp] theorem v1sK_eq : ∀ (l : List V1) (Q : List V1 → Prop), v1sK l Q = Q l
  | [], _ => rfl
  | x :: r, Q => by simp only [v1sK, v1K_eq, v1sK_eq r]
@[simp] theorem vK_eq (v : V) (Q : V → Prop) : vK v Q = Q v := by cases v <;> simp [vK]
@[simp] theorem vsK_eq : ∀ (l : List V) (Q : List V → Prop), vsK l Q = Q l
  | [], _ => rfl
  | x :: r, Q => by simp only [vsK, vK_eq, vsK_eq r]
@[simp] theorem obK_eq (v : Ob) (Q : Ob → Prop) : obK v Q = Q v := by cases v <;> simp [obK]
@[simp] theorem obsK_eq : ∀ (l : List Ob) (Q : List Ob → Prop), obsK l Q = Q l
  | [], _ => rfl
  | x :: r, Q => by simp only [obsK, obK_eq, obsK_eq r]
@[simp] theorem stK_eq (st : St) (Q : St → Prop) : stK st Q = Q st := by cases st; simp [stK]
theorem newK_eq (st : St) (o : Ob) (Q : Nat → St → Prop) : newK st o Q = Q st.heap.length ⟨st.slots, st.heap ++ [o]⟩ := by
  cases st; simp [newK, snocK_eq]

/-! ### data and leaves -/
section
variable {w : World} {Ok Ok' : Nat → Prop} {β : List Value}
theorem leaves_rel : ∀ {k : K} {x : k.ty} {cs : List Value}, RdC w Ok k x cs → All2 (RelL w Ok β) (leaves k x) cs
  | .int _, _, _, h => by rw [show _ = [_] from h]; exact ⟨rfl, trivial⟩
  | .bool, _, _, h => by rw [show _ = [_] from h]; exact ⟨rfl, trivial⟩
  | .str, _, _, h => by rw [show _ = [_] from h]; exact ⟨rfl, trivial⟩
  | .pair a b, x, cs, ⟨c, d, e, h1, h2⟩ => by rw [e]; exact (leaves_rel h1).append (leaves_rel h2)
  | .slice e k, l, cs, ⟨v, hv, h⟩ => by rw [hv]; exact ⟨h, trivial⟩
theorem leaves_len : ∀ {k : K} {x : k.ty}, (leaves k x).length = k.sz
  | .int _, _ => rfl
  | .bool, _ => rfl
  | .str, _ => rfl
  | .pair a b, x => by simp only [leaves, List.length_append, leaves_len, K.sz]
  | .slice e k, l => rfl
theorem dflt_rel : ∀ {k : K}, k.flat = true → True := fun _ => trivial
/-- Data without slices say nothing of the world. -/
theorem RdC.flat {w' : World} : ∀ {k : K} {x : k.ty} {cs : List Value}, k.flat = true → RdC w Ok k x cs → RdC w' Ok' k x cs
  | .int _, _, _, _, h => h
  | .bool, _, _, _, h => h
  | .str, _, _, _, h => h
  | .pair a b, x, cs, hf, ⟨c, d, e, h1, h2⟩ => by
    simp only [K.flat, Bool.and_eq_true] at hf
    exact ⟨c, d, e, RdC.flat hf.1 h1, RdC.flat hf.2 h2⟩
  | .slice _ _, _, _, hf, _ => by simp [K.flat] at hf
theorem unleaf_sound : ∀ {k : K} {ls : List Lf} {x : k.ty} {r : List Lf} {cs : List Value}, unleaf k ls = some (x, r) → All2 (RelL w Ok β) ls cs →
    ∃ c d, cs = c ++ d ∧ RdC w Ok k x c ∧ All2 (RelL w Ok β) r d := by
  intro k
  induction k with
  | int ik =>
    intro ls x r cs h hr
    cases ls with
    | nil => simp [unleaf] at h
    | cons l ls =>
      cases l <;> simp only [unleaf] at h <;> try cases h
      rename_i jk y
      split at h
      · rename_i e
        subst e
        cases h
        cases cs with
        | nil => exact hr.elim
        | cons c cs => exact ⟨[c], cs, rfl, by rw [show c = _ from hr.1]; rfl, hr.2⟩
      · cases h
  | bool =>
    intro ls x r cs h hr
    cases ls with
    | nil => simp [unleaf] at h
    | cons l ls =>
      cases l <;> simp only [unleaf] at h <;> cases h
      cases cs with
      | nil => exact hr.elim
      | cons c cs => exact ⟨[c], cs, rfl, by rw [show c = _ from hr.1]; rfl, hr.2⟩
  | str =>
    intro ls x r cs h hr
    cases ls with
    | nil => simp [unleaf] at h
    | cons l ls =>
      cases l <;> simp only [unleaf] at h <;> cases h
      cases cs with
      | nil => exact hr.elim
      | cons c cs => exact ⟨[c], cs, rfl, by rw [show c = _ from hr.1]; rfl, hr.2⟩
  | pair a b iha ihb =>
    intro ls x r cs h hr
    simp only [unleaf] at h
    split at h
    · rename_i x1 r1 h1
      split at h
      · rename_i x2 r2 h2
        cases h
        obtain ⟨c1, d1, e1, hc1, hd1⟩ := iha h1 hr
        obtain ⟨c2, d2, e2, hc2, hd2⟩ := ihb h2 hd1
        exact ⟨c1 ++ c2, d2, by rw [e1, e2, List.append_assoc], ⟨c1, c2, rfl, hc1, hc2⟩, hd2⟩
      · cases h
    · cases h
  | slice e k _ =>
    intro ls x r cs h hr
    cases ls with
    | nil => simp [unleaf] at h
    | cons l ls =>
      cases l <;> simp only [unleaf] at h <;> try cases h
      · rename_i e' k' l'
        split at h
        · rename_i he
          subst he
          split at h
          · rename_i hk
            subst hk
            cases h
            cases cs with
            | nil => exact hr.elim
            | cons c cs => exact ⟨[c], cs, rfl, ⟨c, rfl, hr.1⟩, hr.2⟩
          · cases h
        · cases h
      · cases cs with
        | nil => exact hr.elim
        | cons c cs => exact ⟨[c], cs, rfl, ⟨c, rfl, .inl ⟨rfl, _, hr.1⟩⟩, hr.2⟩

theorem RelH.obj {heap : List Ob} (h : RelH w Ok β heap) {i : Nat} {o : Ob} (hi : heap[i]? = some o) : ∃ v, β[i]? = some v ∧ RelO w Ok β o v := h.objs.get hi
/-- A row of the frame's own, read. -/
theorem RelO.borrow {e : TypeId} {k : K} {l : List k.ty} {v : Value} (h : RelO w Ok β (.row e k l) v) (hs : ∀ g, Ok g → Ok' g) (hb : ∀ g, blkOf v = some g → Ok' g) :
    RdS (RdC w Ok' k) w Ok' e k.sz l v := by
  obtain ⟨xs, ho, hr⟩ := h
  rcases ho.2 with ⟨hv, hn⟩ | ⟨g, o, cap, cur, hv, hg, hnc, _, hcs, htake⟩
  · exact .inl ⟨List.eq_nil_of_length_eq_zero hn, _, hv⟩
  · refine .inr ⟨g, o, cap, cur, _, (0, 0), hv, hb g (by simp [hv, blkOf]), hg, hnc, ?_, ?_⟩
    · have : l.length * k.sz ≤ cap * k.sz := Nat.mul_le_mul_right _ hnc
      omega
    · rw [htake]
      exact hr.mono fun _ _ => RdC.mono ⟨hs, fun _ _ _ h => h⟩
/-- Blocks of the rows that a list of leaves names. -/
def idBlk (β : List Value) (ids : List Nat) (g : Nat) : Prop := ∃ i ∈ ids, ∃ v, β[i]? = some v ∧ blkOf v = some g
theorem borL_sound {heap : List Ob} (hh : RelH w Ok β heap) (hs : ∀ g, Ok g → Ok' g) {l l' : Lf} {v : Value} (hb : borL heap l = some l') (hi : ∀ g, idBlk β (ownIds [l]) g → Ok' g)
    (h : RelL w Ok β l v) : RelL w Ok' β l' v := by
  have hmono : RelL w Ok' β l v := RelL.mono ⟨hs, fun _ _ _ h => h⟩ (fun _ _ h => h) h
  cases l with
  | own id =>
    simp only [borL] at hb
    split at hb
    · rename_i e k l ho
      cases hb
      obtain ⟨u, hu, hr⟩ := hh.obj ho
      have : u = v := by have := h.1; rw [hu] at this; cases this; rfl
      subst this
      exact RelO.borrow hr hs fun g hg => hi g ⟨id, by simp [ownIds], u, hu, hg⟩
    · cases hb
  | ptr _ _ => simp [borL] at hb
  | ept _ _ _ _ => simp [borL] at hb
  | clo _ _ => simp [borL] at hb
  | mp _ => simp [borL] at hb
  | undef => simp [borL] at hb
  | skip => simp [borL] at hb
  | _ => simp only [borL] at hb; cases hb; exact hmono
theorem ownIds_cons (l : Lf) (r : List Lf) : ownIds (l :: r) = ownIds [l] ++ ownIds r := by cases l <;> rfl
theorem borLs_sound {heap : List Ob} (hh : RelH w Ok β heap) (hs : ∀ g, Ok g → Ok' g) : ∀ {ls ls' : List Lf} {cs : List Value}, borLs heap ls = some ls' → (∀ g, idBlk β (ownIds ls) g → Ok' g) →
    All2 (RelL w Ok β) ls cs → All2 (RelL w Ok' β) ls' cs
  | [], _, _, h, _, hr => by simp [borLs] at h; subst h; rw [hr.nil_left]; trivial
  | l :: r, _, [], _, _, hr => hr.elim
  | l :: r, ls', c :: cs, h, hi, hr => by
    simp only [borLs] at h
    split at h
    · rename_i y hy
      split at h
      · rename_i s hs'
        cases h
        refine ⟨borL_sound hh hs hy (fun g hg => hi g ?_) hr.1, borLs_sound hh hs hs' (fun g hg => hi g ?_) hr.2⟩
        · obtain ⟨i, hm, r⟩ := hg
          exact ⟨i, by rw [ownIds_cons]; exact List.mem_append_left _ hm, r⟩
        · obtain ⟨i, hm, r⟩ := hg
          exact ⟨i, by rw [ownIds_cons]; exact List.mem_append_right _ hm, r⟩
      · cases h
    · cases h
theorem deep_sound {heap : List Ob} (hh : RelH w Ok β heap) (hs : ∀ g, Ok g → Ok' g) {k : K} {ls : List Lf} {x : k.ty} {cs : List Value} (hd : deep heap k ls = some x)
    (hi : ∀ g, idBlk β (ownIds ls) g → Ok' g) (hr : All2 (RelL w Ok β) ls cs) : RdC w Ok' k x cs := by
  unfold deep at hd
  split at hd
  · rename_i ls' hb
    split at hd
    · rename_i y hu
      cases hd
      obtain ⟨c, d, e, hc, hd⟩ := unleaf_sound hu (borLs_sound hh hs hb hi hr)
      rw [hd.nil_left, List.append_nil] at e
      rw [e]; exact hc
    · cases hd
  · cases hd

/-! ### states -/
structure RelS (w : World) (Ok : Nat → Prop) (β : List Value) (st : St) (tm : List Value) : Prop where
  h : RelH w Ok β st.heap
  s : All2 (RelV w Ok β) st.slots tm
end
section
variable {w w' : World} {Ok Ok' : Nat → Prop} {β β' : List Value}
theorem RelV1.mapL (f : Lf → Lf) (hu : f .undef = .undef) (hf : ∀ l v, RelL w Ok β l v → RelL w' Ok' β' (f l) v) {x : V1} {v : Value} (h : RelV1 w Ok β x v) : RelV1 w' Ok' β' (mapV1 f x) v := by
  cases x with
  | one l =>
    by_cases hl : l = .undef
    · subst hl; simp only [mapV1, hu]; trivial
    · exact .of (hf _ _ (h.to hl))
  | agg ls =>
    obtain ⟨vs, h1, h2⟩ := h
    exact ⟨vs, h1, All2.map f (h2.mono hf)⟩
theorem RelV.mapL (f : Lf → Lf) (hu : f .undef = .undef) (hf : ∀ l v, RelL w Ok β l v → RelL w' Ok' β' (f l) v) {x : V} {v : Value} (h : RelV w Ok β x v) : RelV w' Ok' β' (mapV f x) v := by
  cases x with
  | v x => exact RelV1.mapL f hu hf h
  | tup xs =>
    obtain ⟨vs, h1, h2⟩ := h
    exact ⟨vs, h1, All2.map (mapV1 f) (h2.mono fun _ _ => RelV1.mapL f hu hf)⟩
theorem RelO.mapL (f : Lf → Lf) (hu : f .undef = .undef) (hf : ∀ l v, RelL w Ok β l v → RelL w' Ok' β' (f l) v) (hs : Stay w w' Ok Ok') {o : Ob} {v : Value} (hk : ∀ g, blkOf v = some g → w'.heap[g]? = w.heap[g]?)
    (h : RelO w Ok β o v) : RelO w' Ok' β' (mapOb f o) v := by
  cases o with
  | box t cs =>
    obtain ⟨g, cur, hv, hg, hc⟩ := h
    exact ⟨g, cur, hv, by rw [hk g (by simp [hv, blkOf])]; exact hg, All2.map f (hc.mono hf)⟩
  | row e k l =>
    obtain ⟨xs, ho, hr⟩ := h
    refine ⟨xs, ⟨ho.1, ?_⟩, hr.mono fun _ _ => RdC.mono hs⟩
    rcases ho.2 with h | ⟨g, o, cap, cur, hv, hg, r⟩
    · exact .inl h
    · exact .inr ⟨g, o, cap, cur, hv, by rw [hk g (by simp [hv, blkOf])]; exact hg, r⟩
  | dead => exact h
  | iter s pos => obtain ⟨g, hv, hg⟩ := h; exact ⟨g, hv, by rw [hk g (by simp [hv, blkOf])]; exact hg⟩
  | map l => obtain ⟨g, es, ck, hv, hg, hl⟩ := h; exact ⟨g, es, ck, hv, by rw [hk g (by simp [hv, blkOf])]; exact hg, hl⟩
  | frame u cs => exact ⟨h.1, All2.map (mapV f) (h.2.mono fun _ _ => RelV.mapL f hu hf)⟩
  | raw g o => obtain ⟨hv, hg⟩ := h; exact ⟨hv, by rw [hk g (by simp [hv, blkOf])]; exact hg⟩
end
section
variable {w : World} {Ok : Nat → Prop} {β : List Value}
theorem blkOf_undef : blkOf undef = none := rfl
theorem get_set_ne {α : Type} {l : List α} {i j : Nat} {a : α} (h : j ≠ i) : (l.set i a)[j]? = l[j]? := by
  rw [List.getElem?_set]; simp [Ne.symm h]
theorem mem_set_of {α : Type} {l : List α} {i : Nat} {a b : α} (h : b ∈ l.set i a) : b = a ∨ ∃ j, j ≠ i ∧ l[j]? = some b := by
  obtain ⟨j, hj⟩ := List.getElem?_of_mem h
  by_cases hji : j = i
  · subst hji
    rw [List.getElem?_set] at hj
    simp at hj
    exact .inl hj.2.symm
  · rw [get_set_ne hji] at hj
    exact .inr ⟨j, hji, hj⟩
/-- A row is sealed: its block is allowed from here on. -/
theorem seal_sound {st st' : St} {id : Nat} {tm : List Value} (h : RelS w Ok β st tm) (hs : sealSt id st = some st') :
    ∃ β' Ok', RelS w Ok' β' st' tm ∧ (∀ g, Ok' g ↔ Ok g ∨ idBlk β [id] g) ∧ β' = β.set id undef := by
  unfold sealSt at hs
  split at hs
  · rename_i e k l ho
    cases hs
    obtain ⟨v, hv, hr⟩ := h.h.obj ho
    obtain ⟨a0, c0, hsl⟩ := hr.row_val
    let Ok' : Nat → Prop := fun g => Ok g ∨ idBlk β [id] g
    have hstay : Stay w w Ok Ok' := ⟨fun _ => .inl, fun _ _ _ h => h⟩
    have hid : ∀ g, blkOf v = some g → Ok' g := fun g hg => .inr ⟨id, by simp, v, hv, hg⟩
    have hL : ∀ (x : Lf) (u : Value), RelL w Ok β x u → RelL w Ok' (β.set id undef) (sealL id e k l x) u := by
      intro x u hx
      have hne : ∀ i : Nat, i ≠ id → ∀ z : Value, β[i]? = some z → (β.set id undef)[i]? = some z := fun i hi z hz => by rw [get_set_ne hi]; exact hz
      have hptr : ∀ n off u, RelPtr β n off u → RelPtr (β.set id undef) n off u := fun n off u ⟨g, h1, h2⟩ => by
        refine ⟨g, hne n ?_ _ h1, h2⟩
        rintro rfl
        rw [hv] at h1; cases h1
        cases hsl
      cases x with
      | own i =>
        simp only [sealL]
        split
        · rename_i hi
          subst hi
          have : u = v := by have := hx.1; rw [hv] at this; cases this; rfl
          subst this
          exact RelO.borrow hr (fun _ => .inl) hid
        · rename_i hi
          exact ⟨hne i hi _ hx.1, hx.2⟩
      | ept i n sz off =>
        simp only [sealL]
        split
        · exact hx.def1 (by simp)
        · rename_i hi
          obtain ⟨g, o, m, c, h1, h2⟩ := hx
          exact ⟨g, o, m, c, hne i hi _ h1, h2⟩
      | ptr i off => exact hptr _ _ _ hx
      | mp i =>
        obtain ⟨h1, g, h2⟩ := hx
        refine ⟨hne i ?_ _ h1, g, h2⟩
        rintro rfl
        rw [hv] at h1; cases h1
        rw [hsl] at h2; cases h2
      | clo f caps =>
        obtain ⟨vs, h1, h2⟩ := hx
        refine ⟨vs, h1, h2.mono fun c u hc => ?_⟩
        cases c with
        | id n => exact hptr _ _ _ hc
        | imm k x => exact RelRp.mono hstay hc
      | sl e k l => exact RdS.mono (e := e) hstay (fun _ _ => RdC.mono hstay) hx
      | rp k x off => exact RelRp.mono hstay hx
      | _ => exact hx
    refine ⟨β.set id undef, Ok', ⟨⟨?_, ?_, ?_, ?_, ?_⟩, ?_⟩, fun _ => Iff.rfl, rfl⟩
    · refine All2.set id (All2.map (mapOb _) (h.h.objs.mono fun o v hov => ?_)) rfl
      exact RelO.mapL _ rfl hL hstay (fun _ _ => rfl) hov
    · intro i j x y g hi hj hx hy
      by_cases hii : i = id
      · subst hii
        rw [List.getElem?_set] at hi
        simp at hi
        rw [← hi.2] at hx; cases hx
      · by_cases hjj : j = id
        · subst hjj
          rw [List.getElem?_set] at hj
          simp at hj
          rw [← hj.2] at hy; cases hy
        · rw [get_set_ne hii] at hi
          rw [get_set_ne hjj] at hj
          exact h.h.dist i j x y g hi hj hx hy
    · intro x g hx hg
      rcases mem_set_of hx with rfl | ⟨j, _, hj⟩
      · cases hg
      · exact h.h.lt x g (List.mem_of_getElem? hj) hg
    · rintro g (hg | ⟨i, hi, x, hx, hg⟩)
      · exact h.h.okLt g hg
      · exact h.h.lt x g (List.mem_of_getElem? hx) hg
    · intro x g hx hg
      rcases mem_set_of hx with rfl | ⟨j, hj, hxj⟩
      · cases hg
      · rintro (ho' | ⟨i, hi, y, hy, hgy⟩)
        · exact h.h.okNot x g (List.mem_of_getElem? hxj) hg ho'
        · simp at hi
          subst hi
          exact hj (h.h.dist j i x y g hxj hy hg hgy)
    · exact All2.map (mapV _) (h.s.mono fun _ _ => RelV.mapL _ rfl hL)
  · cases hs
theorem sealAll_sound : ∀ {ids : List Nat} {st : St} {β : List Value} {Ok : Nat → Prop} {tm : List Value}, RelS w Ok β st tm →
    ∃ β' Ok', RelS w Ok' β' (sealAll ids st) tm ∧ (∀ g, Ok g → Ok' g) ∧ (∀ g, Ok' g → Ok g ∨ idBlk β ids g) ∧ (∀ i ∈ ids, ∀ e k l, st.heap[i]? = some (Ob.row e k l) → ∀ g, idBlk β [i] g → Ok' g) ∧
      (∀ (i : Nat) v g, β'[i]? = some v → blkOf v = some g → β[i]? = some v) ∧ β'.length = β.length ∧
      (∀ i : Nat, i ∉ ids → β'[i]? = β[i]? ∧ ∀ e k l, st.heap[i]? = some (Ob.row e k l) → (sealAll ids st).heap[i]? = some (Ob.row e k l)) := by
  intro ids
  induction ids with
  | nil => intro st β Ok tm h; exact ⟨β, Ok, h, fun _ h => h, fun _ h => .inl h, fun _ h => by simp at h, fun _ _ _ h _ => h, rfl, fun _ _ => ⟨rfl, fun _ _ _ h => h⟩⟩
  | cons id r ih =>
    intro st β Ok tm h
    simp only [sealAll]
    split
    · rename_i st' hst
      obtain ⟨β1, Ok1, h1, hok1, hb1⟩ := seal_sound h hst
      obtain ⟨β2, Ok2, h2, hm2, hb2, hr2, hg2, hl2, hk2⟩ := ih h1
      have back : ∀ (i : Nat) v g, β1[i]? = some v → blkOf v = some g → β[i]? = some v := by
        intro i v g hv hg
        rw [hb1] at hv
        by_cases hi : i = id
        · subst hi
          rw [List.getElem?_set] at hv
          simp at hv
          rw [← hv.2] at hg; cases hg
        · rwa [get_set_ne hi] at hv
      refine ⟨β2, Ok2, h2, fun g hg => hm2 g ((hok1 g).2 (.inl hg)), ?_, ?_, fun i v g hv hg => back i v g (hg2 i v g hv hg) hg, by rw [hl2, hb1, List.length_set], ?_⟩
      · intro g hg
        rcases hb2 g hg with hg | ⟨i, hi, v, hv, hg⟩
        · rcases (hok1 g).1 hg with hg | ⟨i, hi, v, hv, hg⟩
          · exact .inl hg
          · exact .inr ⟨i, by simp at hi; simp [hi], v, hv, hg⟩
        · exact .inr ⟨i, by simp [hi], v, back i v g hv hg, hg⟩
      · intro i hi e k l ho g hg
        by_cases hii : i = id
        · subst hii
          exact hm2 g ((hok1 g).2 (.inr hg))
        · have hi' : i ∈ r := by simpa [hii] using hi
          refine hr2 i hi' e k l ?_ g ?_
          · unfold sealSt at hst
            split at hst
            · cases hst
              rw [get_set_ne hii, List.getElem?_map, ho]; rfl
            · cases hst
          · obtain ⟨j, hj, v, hv, hgv⟩ := hg
            simp at hj
            subst hj
            exact ⟨j, by simp, v, by rw [hb1, get_set_ne hii]; exact hv, hgv⟩
      · intro i hi
        have hii : i ≠ id := by rintro rfl; exact hi (by simp)
        have hir : i ∉ r := fun h => hi (by simp [h])
        obtain ⟨k1, k2⟩ := hk2 i hir
        refine ⟨by rw [k1, hb1, get_set_ne hii], fun e k l ho => k2 e k l ?_⟩
        unfold sealSt at hst
        split at hst
        · cases hst
          rw [get_set_ne hii, List.getElem?_map, ho]; rfl
        · cases hst
    · rename_i hst
      obtain ⟨β2, Ok2, h2, hm2, hb2, hr2, hg2, hl2, hk2⟩ := ih h
      refine ⟨β2, Ok2, h2, hm2, fun g hg => (hb2 g hg).imp (fun h => h) fun ⟨i, hi, r⟩ => ⟨i, by simp [hi], r⟩, ?_, hg2, hl2, fun i hi => hk2 i fun h => hi (by simp [h])⟩
      intro i hi e k l ho
      by_cases hii : i = id
      · subst hii
        exfalso
        unfold sealSt at hst
        rw [ho] at hst
        cases hst
      · exact hr2 i (by simpa [hii] using hi) e k l ho
theorem ownIds_mem {l : Lf} : ∀ {ls : List Lf} {i : Nat}, i ∈ ownIds ls → Lf.own i ∈ ls
  | [], _, h => by simp [ownIds] at h
  | l :: r, i, h => by
    rw [ownIds_cons] at h
    rcases List.mem_append.1 h with h | h
    · cases l <;> simp [ownIds] at h
      subst h; simp
    · exact List.mem_cons_of_mem _ (ownIds_mem (l := l) h)
/-- The blocks that a list of leaves names are those of rows. -/
theorem own_rows {heap : List Ob} (hh : RelH w Ok β heap) {ls : List Lf} {cs : List Value} (hr : All2 (RelL w Ok β) ls cs) {g : Nat} (hg : idBlk β (ownIds ls) g) :
    ∃ i ∈ ownIds ls, (∃ e k l, heap[i]? = some (Ob.row e k l)) ∧ idBlk β [i] g := by
  obtain ⟨i, hi, v, hv, hb⟩ := hg
  refine ⟨i, hi, ?_, i, by simp, v, hv, hb⟩
  obtain ⟨j, hj⟩ := List.getElem?_of_mem (ownIds_mem (l := .undef) hi)
  obtain ⟨u, _, hu, a, n, c, hsl⟩ := hr.get hj
  rw [hv] at hu
  obtain rfl : v = u := by cases hu; rfl
  have hlt : i < heap.length := by rw [hh.objs.length]; exact (List.getElem?_eq_some_iff.1 hv).1
  have hob := List.getElem?_eq_getElem hlt
  obtain ⟨u', hu', ho⟩ := hh.obj hob
  rw [hv] at hu'
  obtain rfl : v = u' := by cases hu'; rfl
  cases hc : heap[i] with
  | row e k l => exact ⟨e, k, l, by rw [hob, hc]⟩
  | box t cs =>
    rw [hc] at ho
    obtain ⟨g, cur, hv', _⟩ := ho
    rw [hsl] at hv'; cases hv'
  | dead =>
    rw [hc] at ho
    have : blkOf v = none := ho
    rw [this] at hb; cases hb
  | iter s pos => rw [hc] at ho; obtain ⟨g, hv', _⟩ := ho; rw [hsl] at hv'; cases hv'
  | map l => rw [hc] at ho; obtain ⟨g, es, ck, hv', _⟩ := ho; rw [hsl] at hv'; cases hv'
  | frame u cs => rw [hc] at ho; have := ho.1; rw [hsl] at this; cases this
  | raw g o => rw [hc] at ho; have := ho.1; rw [hsl] at this; cases this
end
end Go.AM
namespace Go.AM
open Go.RowKit

def all2B {α β : Type} (f : α → β → Bool) : List α → List β → Bool
  | [], [] => true
  | a :: l, b :: m => f a b && all2B f l m
  | _, _ => false
theorem all2B_spec {α β : Type} {f : α → β → Bool} {R : α → β → Prop} (h : ∀ a b, f a b = true → R a b) : ∀ {l : List α} {m : List β}, all2B f l m = true → All2 R l m
  | [], [], _ => trivial
  | a :: l, b :: m, e => by
    simp only [all2B, Bool.and_eq_true] at e
    exact ⟨h _ _ e.1, all2B_spec h e.2⟩
  | [], _ :: _, e => by simp [all2B] at e
  | _ :: _, [], e => by simp [all2B] at e
def zeroB : Lf → Value → Bool
  | .int k x, .int k' y => decide (k = k') && decide (x = y)
  | .bool b, .bool c => b == c
  | .str s, .string t => s.size == 0 && t.size == 0
  | .nils, .slice none 0 0 => true
  | .nilp, .pointer none => true
  | .undef, v => v.oneCell'
  | _, _ => false
theorem bytes_nil {s : ByteArray} (h : s.size = 0) : s = ByteArray.empty := by
  cases s with
  | mk d =>
    simp only [ByteArray.size] at h
    rw [Array.size_eq_zero_iff.1 h]; rfl
theorem zeroB_spec {w : World} {Ok : Nat → Prop} {β : List Value} {l : Lf} {v : Value} (h : zeroB l v = true) : RelL w Ok β l v := by
  cases l with
  | int k x => cases v <;> simp [zeroB] at h; rw [h.1, h.2]; rfl
  | bool b => cases v <;> simp [zeroB] at h; rw [h]; rfl
  | str s => cases v <;> simp only [zeroB, Bool.and_eq_true, beq_iff_eq] at h <;> first | (rw [bytes_nil h.1, bytes_nil h.2]; rfl) | cases h
  | nils => unfold zeroB at h; split at h <;> rename_i e <;> first | (cases e; done) | exact rfl | (cases e; exact rfl) | (rename_i e2 _; cases e2; done) | (rename_i e2; cases e2; done) | (simp at h; done)
  | nilp => unfold zeroB at h; split at h <;> rename_i e <;> first | (cases e; done) | exact rfl | (cases e; exact rfl) | (rename_i e2 _; cases e2; done) | (rename_i e2; cases e2; done) | (simp at h; done)
  | undef => exact h
  | _ => simp [zeroB] at h
def zeroK : K → List Value → Bool
  | .int ik, [.int jk x] => decide (ik = jk) && decide (x = 0)
  | .bool, [.bool b] => !b
  | .str, [.string s] => s.size == 0
  | .pair a b, cs => zeroK a (cs.take a.sz) && zeroK b (cs.drop a.sz)
  | .slice _ _, [.slice none 0 0] => true
  | _, _ => false
theorem zeroK_spec {w : World} {Ok : Nat → Prop} : ∀ {k : K} {cs : List Value}, zeroK k cs = true → RdC w Ok k k.dflt cs := by
  intro k
  induction k with
  | int ik =>
    intro cs h
    cases cs with
    | nil => simp [zeroK] at h
    | cons v r =>
      cases r with
      | nil =>
        cases v <;> simp [zeroK] at h
        rw [← h.1, h.2]; rfl
      | cons _ _ => simp [zeroK] at h
  | bool =>
    intro cs h
    cases cs with
    | nil => simp [zeroK] at h
    | cons v r =>
      cases r with
      | nil =>
        cases v <;> simp [zeroK] at h
        rw [h]; rfl
      | cons _ _ => simp [zeroK] at h
  | str =>
    intro cs h
    cases cs with
    | nil => simp [zeroK] at h
    | cons v r =>
      cases r with
      | nil =>
        cases v <;> simp only [zeroK, beq_iff_eq] at h <;> first | (rw [bytes_nil h]; rfl) | cases h
      | cons _ _ => simp [zeroK] at h
  | pair a b iha ihb =>
    intro cs h
    simp only [zeroK, Bool.and_eq_true] at h
    exact ⟨cs.take a.sz, cs.drop a.sz, by simp, iha h.1, ihb h.2⟩
  | slice e k _ =>
    intro cs h
    unfold zeroK at h
    split at h <;> first | exact ⟨_, rfl, .inl ⟨rfl, none, rfl⟩⟩ | (rename_i e; cases e; done) | (simp at h; done)

/-- Whether a value is a struct or an array. -/
def isAggV : Value → Bool
  | .agg _ => true
  | _ => false
def aggOf : TypeDesc → Bool
  | .struct _ => true
  | .array _ _ => true
  | _ => false
def fieldOk (P : Program) (x : Nat × Nat × Bool) (f : Field) : Bool :=
  f.offset == x.1 && decide (0 < x.2.1) && (match P.info? f.type with | some i => i.size == x.2.1 | none => false) && (match P.underlying f.type with | some d => aggOf d == x.2.2 | none => false)
def sliceOk (P : Program) (e : TypeId) (k : K) : Bool :=
  match P.info? e with
  | some ie => ie.size == k.sz && decide (0 < ie.bytes) && (match ie.zero with | some z => zeroK k z.cells.toList | none => false)
  | none => false
def kdOk : Option K → TypeDesc → Bool
  | some (.slice e _), .slice e' => e == e'
  | some (.slice _ _), _ => false
  | some .bool, .bool => true
  | some .bool, _ => false
  | some .str, .string => true
  | some .str, _ => false
  | _, _ => true
def descOk (P : Program) (d : TypeDesc) (i : TI) : Bool :=
  match d with
  | .struct fs => Nat.beq i.len 0 && all2B (fieldOk P) i.fields fs.toList
  | .array n e => i.len == n && i.elem == e && (match P.info? e, P.underlying e with
    | some ie, some de => i.fields == (List.range n).map fun j => (j * ie.size, ie.size, aggOf de)
    | _, _ => false)
  | .slice e => Nat.beq i.len 0 && i.fields.isEmpty && (match i.kd with
    | some (.slice _ k) => sliceOk P e k
    | _ => true)
  | _ => Nat.beq i.len 0 && i.fields.isEmpty
def kvOk (P : Program) (i : TI) (d : TypeDesc) : Bool :=
  match i.kv with
  | none => true
  | some (k, e) => (match d with | .map k' e' => k == k' && e == e' | _ => false) && (match P.underlying k with | some .string => true | _ => false) &&
      (match P.info? e with | some ie => (match ie.zero with | some (.bool b) => !b | _ => false) | none => false)
def tiOk (P : Program) (t : TypeId) (i : TI) : Bool :=
  match P.info? t, P.underlying t with
  | some pi, some d => pi.size == i.zero.length && pi.bytes == i.bytes && aggOf d == i.agg && kdOk i.kd d && (descOk P d i && kvOk P i d) &&
      (match pi.zero with
       | some z => all2B zeroB i.zero z.cells.toList && (isAggV z == i.agg)
       | none => false)
  | _, _ => false
def ttOk (P : Program) (T : TT) : Bool := T.all fun x => tiOk P x.1 x.2
structure TiFacts (P : Program) (t : TypeId) (i : TI) (pi : TypeInfo) (d : TypeDesc) (z : Value) : Prop where
  info : P.info? t = some pi
  und : P.underlying t = some d
  size : pi.size = i.zero.length
  bytes : pi.bytes = i.bytes
  agg : aggOf d = i.agg
  kd : kdOk i.kd d = true
  desc : descOk P d i = true
  kvp : kvOk P i d = true
  zero : pi.zero = some z
  zeroR : ∀ w Ok β, All2 (RelL w Ok β) i.zero z.cells.toList
  zeroA : isAggV z = i.agg
theorem tget_mem {T : TT} {t : TypeId} {i : TI} (h : tget T t = some i) : (t, i) ∈ T := by
  induction T with
  | nil => simp [tget] at h
  | cons x T ih =>
    obtain ⟨u, j⟩ := x
    simp only [tget] at h
    split at h
    · cases h; rename_i e; subst e; simp
    · exact List.mem_cons_of_mem _ (ih h)
theorem ti_facts {P : Program} {T : TT} {t : TypeId} {i : TI} (hT : ttOk P T = true) (h : tget T t = some i) : ∃ pi d z, TiFacts P t i pi d z := by
  have := List.all_eq_true.1 hT _ (tget_mem h)
  simp only [tiOk] at this
  split at this
  · rename_i pi d h1 h2
    simp only [Bool.and_eq_true] at this
    obtain ⟨⟨⟨⟨⟨a1, a2⟩, a3⟩, a4⟩, a5⟩, a6⟩ := this
    split at a6
    · rename_i z hz
      simp only [Bool.and_eq_true] at a6
      exact ⟨pi, d, z, h1, h2, by simpa using a1, by simpa using a2, by simpa using a3, a4, a5.1, a5.2, hz, fun w Ok β => all2B_spec (fun _ _ => zeroB_spec) a6.1, by simpa using a6.2⟩
    · cases a6
  · cases this
/-- A slice type's facts. -/
theorem skind_facts {P : Program} {T : TT} {t : TypeId} {e : TypeId} {k : K} (hT : ttOk P T = true) (h : skind T t = some (e, k)) :
    ∃ ie z, P.underlying t = some (.slice e) ∧ P.info? e = some ie ∧ ie.size = k.sz ∧ 0 < ie.bytes ∧ ie.zero = some z ∧ z.cells.size = k.sz ∧ ∀ w Ok, RdC w Ok k k.dflt z.cells.toList := by
  unfold skind at h
  split at h
  · rename_i i hi
    split at h
    · rename_i e' k' hk
      cases h
      obtain ⟨pi, d, z, f⟩ := ti_facts hT hi
      have hd := f.desc
      have hkd := f.kd
      rw [hk] at hkd
      cases d <;> simp [kdOk] at hkd
      subst hkd
      simp only [descOk, hk, sliceOk, Bool.and_eq_true] at hd
      replace hd := hd.2
      split at hd
      · rename_i ie hie
        simp only [Bool.and_eq_true, beq_iff_eq, decide_eq_true_eq] at hd
        obtain ⟨⟨h1, h2⟩, h3⟩ := hd
        split at h3
        · rename_i z hz
          have hr : ∀ w Ok, RdC w Ok k k.dflt z.cells.toList := fun w Ok => zeroK_spec h3
          exact ⟨ie, z, f.und, hie, h1, h2, hz, by simpa using (hr default (fun _ => True)).len, hr⟩
        · cases h3
      · cases hd
    · cases h
  · cases h

/-! ### operands -/
section
variable {w : World} {Ok : Nat → Prop} {β : List Value}
theorem constV_rel {v : Value} {x : V1} (h : constV v = some x) : RelV1 w Ok β x v := by
  unfold constV at h
  split at h <;> cases h <;> first | rfl | trivial
theorem evK_sound {st : St} {a : Act} (r : RelS w Ok β st a.tmps.toList) {o : Operand} {Q : V → Prop} (h : evK st o Q) : ∃ v, Q v ∧ RelV w Ok β v (a.eval o) := by
  cases o with
  | tmp t =>
    obtain ⟨v, hv, hq⟩ := getK_iff h
    obtain ⟨b, hb, hr⟩ := r.s.get hv
    refine ⟨v, hq, ?_⟩
    have : a.eval (.tmp t) = b := by
      have hb' : a.tmps[t]? = some b := by simpa using hb
      show a.tmps.getD t undef = b
      simp [hb']
    rw [this]; exact hr
  | const c =>
    obtain ⟨x, hx, hq⟩ := someK_iff h
    exact ⟨_, hq, constV_rel hx⟩
  | global _ => exact h.elim
  | func _ => exact h.elim
theorem ev1_sound {st : St} {a : Act} (r : RelS w Ok β st a.tmps.toList) {o : Operand} {Q : V1 → Prop} (h : ev1 st o Q) : ∃ v, Q v ∧ RelV1 w Ok β v (a.eval o) := by
  obtain ⟨v, hq, hr⟩ := evK_sound r h
  cases v with
  | v x => exact ⟨x, hq, hr⟩
  | tup _ => exact hq.elim
theorem evL_sound {st : St} {a : Act} (r : RelS w Ok β st a.tmps.toList) {o : Operand} {Q : Lf → Prop} (h : evL st o Q) : ∃ l, Q l ∧ RelV1 w Ok β (.one l) (a.eval o) := by
  obtain ⟨v, hq, hr⟩ := ev1_sound r h
  cases v with
  | one l => exact ⟨l, hq, hr⟩
  | agg _ => exact hq.elim
theorem evI_sound {st : St} {a : Act} (r : RelS w Ok β st a.tmps.toList) {o : Operand} {Q : IntKind → Int → Prop} (h : evI st o Q) : ∃ k x, Q k x ∧ a.eval o = .int k x := by
  obtain ⟨l, hq, hr⟩ := evL_sound r h
  cases l <;> first | exact hq.elim | exact ⟨_, _, hq, hr⟩
theorem optI_sound {st : St} {a : Act} (r : RelS w Ok β st a.tmps.toList) {o : Option Operand} {d : Int} {Q : Int → Prop} (h : optI st o d Q) :
    ∃ x, Q x ∧ ((o = none ∧ x = d) ∨ ∃ y k, o = some y ∧ a.eval y = .int k x) := by
  cases o with
  | none => exact ⟨d, h, .inl ⟨rfl, rfl⟩⟩
  | some y =>
    obtain ⟨k, x, hq, hx⟩ := evI_sound r h
    exact ⟨x, hq, .inr ⟨y, k, rfl, hx⟩⟩
theorem partsK_sound {st : St} {a : Act} (r : RelS w Ok β st a.tmps.toList) : ∀ {ps : List (Nat × Operand)} {Q : List (Nat × V1) → Prop}, partsK st ps Q →
    ∃ vs, Q vs ∧ All2 (fun x (p : Nat × Value) => x.1 = p.1 ∧ RelV1 w Ok β x.2 p.2) vs (ps.map fun p => (p.1, a.eval p.2))
  | [], _, h => ⟨[], h, trivial⟩
  | (i, o) :: ps, Q, h => by
    obtain ⟨v, hq, hr⟩ := ev1_sound r h
    obtain ⟨vs, hq', hr'⟩ := partsK_sound r hq
    exact ⟨_, hq', ⟨rfl, hr⟩, hr'⟩
/-- Cells of a value. -/
theorem RelV1.cells {x : V1} {v : Value} (h : RelV1 w Ok β x v) (hd : isDef x = true) : All2 (RelL w Ok β) x.ls v.cells.toList ∧ oneCells v.cells.toList := by
  cases x with
  | one l =>
    have hl : l ≠ .undef := by rintro rfl; simp [isDef] at hd
    have hs : l ≠ .skip := by rintro rfl; simp [isDef] at hd
    have h1 := h.to hl
    have h2 := h1.def1 hs
    have : v.cells = #[v] := by cases v <;> simp [Value.oneCell'] at h2 <;> rfl
    rw [this]
    exact ⟨⟨h1, trivial⟩, fun u hu => by simp at hu; rw [hu]; exact h2⟩
  | agg ls =>
    obtain ⟨vs, rfl, hr⟩ := h
    refine ⟨hr, ?_⟩
    intro u hu
    obtain ⟨i, hi⟩ := List.getElem?_of_mem hu
    simp only [Value.cells] at hi
    have hlen := hr.length
    have hlt : i < ls.length := by
      have := (List.getElem?_eq_some_iff.1 hi).1
      omega
    obtain ⟨b, hb, hrb⟩ := hr.get (List.getElem?_eq_getElem hlt)
    rw [hi] at hb
    cases hb
    refine hrb.def1 ?_
    intro e
    simp only [isDef, List.all_eq_true] at hd
    have := hd ls[i] (List.getElem_mem hlt)
    rw [e] at this
    simp at this
end
end Go.AM
namespace Go.AM
open Go.RowKit

/-- What stood there stands. -/
structure Grow (w w' : World) : Prop where
  size : w.heap.size ≤ w'.heap.size
  block : ∀ g, g < w.heap.size → w'.heap[g]? = w.heap[g]?
theorem Grow.refl (w : World) : Grow w w := ⟨Nat.le_refl _, fun _ _ => rfl⟩
theorem Grow.trans {a b c : World} (h : Grow a b) (k : Grow b c) : Grow a c := ⟨Nat.le_trans h.size k.size, fun g hg => (k.block g (Nat.lt_of_lt_of_le hg h.size)).trans (h.block g hg)⟩
theorem Grow.alloc (w : World) (o : Obj) : Grow w (w.alloc o) := ⟨by simp, fun g hg => heap_alloc_old w o g hg⟩
/-- Every block of a type stands. -/
structure KeepT (bt : TypeId) (w w' : World) : Prop where
  size : w.heap.size ≤ w'.heap.size
  block : ∀ (g : Nat) (cur : Array Value) (fr : Nat × Nat), w.heap[g]? = some (Obj.cells cur bt fr) → w'.heap[g]? = w.heap[g]?
theorem KeepT.refl (bt : TypeId) (w : World) : KeepT bt w w := ⟨Nat.le_refl _, fun _ _ _ _ => rfl⟩
theorem KeepT.trans {bt : TypeId} {a b c : World} (h : KeepT bt a b) (k : KeepT bt b c) : KeepT bt a c :=
  ⟨Nat.le_trans h.size k.size, fun g cur fr hg => (k.block g cur fr ((h.block g cur fr hg).trans hg)).trans (h.block g cur fr hg)⟩
theorem Grow.keep {w w' : World} (h : Grow w w') (bt : TypeId) : KeepT bt w w' := ⟨h.size, fun g _ _ hg => h.block g (Array.getElem?_eq_some_iff.1 hg).1⟩
section
variable {P : Program} {T : TT}
theorem run_info {t : TypeId} {i : TypeInfo} (h : P.info? t = some i) (w : World) : (typeInfo t).run P w = .ok i w := by simp [typeInfo, h]
theorem run_sizeOf {t : TypeId} {i : TypeInfo} (h : P.info? t = some i) (w : World) : (sizeOf t).run P w = .ok i.size w := by simp [sizeOf, run_info h]
theorem run_isAgg {t : TypeId} {d : TypeDesc} (h : P.underlying t = some d) (w : World) : (isAgg t).run P w = .ok (aggOf d) w := by
  unfold isAgg
  rw [Sem.run_bind, run_underlying h w]
  cases d <;> simp [aggOf]
/-- What is read at the head of some cells. -/
def rdV (ag : Bool) (n : Nat) (us : List Value) : Value :=
  match ag with
  | true => .agg (us.take n).toArray
  | false => us.headD undef
theorem run_loadVar_at {t : TypeId} {pi : TypeInfo} {d : TypeDesc} (hi : P.info? t = some pi) (hu : P.underlying t = some d) {w : World} {g off : Nat} {cur : Array Value} {e : TypeId} {fr : Nat × Nat}
    (hg : w.heap[g]? = some (.cells cur e fr)) (hl : off + pi.size ≤ cur.size) (h1 : aggOf d = false → 0 < pi.size) :
    (loadVar t ⟨g, off, none⟩).run P w = .ok (rdV (aggOf d) pi.size (cur.toList.drop off)) w := by
  unfold loadVar
  rw [Sem.run_bind, run_isAgg hu]
  cases hd : aggOf d with
  | true =>
    have hll : ((cur.toList.drop off).take pi.size).length = pi.size := by simp; omega
    have := run_loadCells_list (P := P) w ⟨g, off, none⟩ ((cur.toList.drop off).take pi.size) (fun j v hv => by
      rw [Addr.add_lit, cell_of_row w g _ cur e fr hg]
      rw [List.getElem?_take] at hv
      split at hv
      · simpa using hv
      · cases hv)
    rw [hll] at this
    simp [run_sizeOf hi, this, rdV]
  | false =>
    have hlt : off < cur.size := by have := h1 hd; omega
    have hc : w.cell? ⟨g, off, none⟩ = some cur[off] := by rw [cell_of_row w g off cur e fr hg]; simp [hlt]
    have hh : (cur.toList.drop off).headD undef = cur[off] := by
      rw [List.drop_eq_getElem_cons (by simpa using hlt)]; simp
    simp [rdV, Result.andThen, run_load, hc, hlt]
theorem run_part_at {t : TypeId} {pi : TypeInfo} {d : TypeDesc} (hi : P.info? t = some pi) (hu : P.underlying t = some d) {w : World} {cs : Array Value} {off : Nat} (h1 : aggOf d = false → off < cs.size) :
    (part t cs off).run P w = .ok (rdV (aggOf d) pi.size (cs.toList.drop off)) w := by
  unfold part
  rw [Sem.run_bind, run_isAgg hu]
  cases hd : aggOf d with
  | true =>
    have : cs.extract off (off + pi.size) = ((cs.toList.drop off).take pi.size).toArray := by
      apply Array.ext'
      simp [List.extract_eq_take_drop]
    simp [run_sizeOf hi, rdV, this]
  | false =>
    have hlt := h1 hd
    have hh : (cs.toList.drop off).headD undef = cs[off] := by
      rw [List.drop_eq_getElem_cons (by simpa using hlt)]; simp
    simp [rdV, hlt, hh, Result.andThen]
end
section
variable {P : Program} {T : TT} {w : World} {Ok : Nat → Prop} {β : List Value}
theorem TiFacts.size1 {t : TypeId} {i : TI} {pi : TypeInfo} {d : TypeDesc} {z : Value} (f : TiFacts P t i pi d z) (h : aggOf d = false) : i.zero.length = 1 := by
  have hz := f.zeroA
  rw [← f.agg, h] at hz
  have hl := (f.zeroR default (fun _ => True) []).length
  rw [hl]
  cases z <;> simp [isAggV] at hz <;> rfl
theorem shapeV_sound {i : TI} {cs : List Lf} {us : List Value} {Q : V1 → Prop} (h : shapeV i cs Q) (hr : All2 (RelL w Ok β) cs us) : ∃ x, Q x ∧ RelV1 w Ok β x (rdV i.agg i.zero.length us) := by
  unfold shapeV at h
  cases hi : i.agg with
  | true =>
    rw [hi] at h
    refine ⟨_, h, (us.take i.zero.length).toArray, rfl, ?_⟩
    simpa [cutL] using hr.take i.zero.length
  | false =>
    rw [hi] at h
    cases cs with
    | nil => exact h.elim
    | cons c cs =>
      cases us with
      | nil => exact hr.elim
      | cons u us => exact ⟨_, h, RelV1.of hr.1⟩
/-- A world in which a load sees what it saw. -/
def Sees (st : St) (p : Lf) (w w' : World) : Prop := Grow w w' ∨ ∃ id off bt cs, p = .ptr id off ∧ st.heap[id]? = some (.box bt cs) ∧ KeepT bt w w'
theorem loadK_sees (hT : ttOk P T = true) {st : St} (r : RelH w Ok β st.heap) {t : TypeId} {p : Lf} {v : Value} {Q : V1 → Prop} (h : loadK T st t p Q) (hp : RelV1 w Ok β (.one p) v) :
    ∃ x u, Q x ∧ RelV1 w Ok β x u ∧ ∀ w' : World, Sees st p w w' → (Instr.loadAt t v).run P w' = .ok u w' := by
  obtain ⟨i, hi, h⟩ := someK_iff h
  obtain ⟨pi, d, z, f⟩ := ti_facts hT hi
  have go : ∀ (g off : Nat) (cur : Array Value) (e : TypeId) (fr : Nat × Nat) (cs : List Lf), v = .pointer (some ⟨g, off, none⟩) → w.heap[g]? = some (.cells cur e fr) → off + i.zero.length ≤ cur.size →
      shapeV i cs Q → ∀ n, All2 (RelL w Ok β) cs ((cur.toList.drop off).take n) → i.zero.length ≤ n → (∀ w' : World, Sees st p w w' → w'.heap[g]? = w.heap[g]?) →
      ∃ x u, Q x ∧ RelV1 w Ok β x u ∧ ∀ w' : World, Sees st p w w' → (Instr.loadAt t v).run P w' = .ok u w' := by
    intro g off cur e fr cs hv hg hl hs n hr hn hsee
    obtain ⟨x, hq, hx⟩ := shapeV_sound hs hr
    refine ⟨x, _, hq, hx, fun w' hw => ?_⟩
    have h1 : aggOf d = false → 0 < pi.size := fun h => by rw [f.size, f.size1 h]; exact Nat.one_pos
    have hrun := run_loadVar_at (P := P) f.info f.und (w := w') (g := g) (off := off) (by rw [hsee w' hw]; exact hg) (by rw [f.size]; exact hl) h1
    have e : rdV (aggOf d) pi.size (cur.toList.drop off) = rdV i.agg i.zero.length ((cur.toList.drop off).take n) := by
      rw [f.agg, f.size]
      cases hag : i.agg with
      | true => simp [rdV, List.take_take, Nat.min_eq_left hn]
      | false =>
        have : i.zero.length = 1 := f.size1 (by rw [f.agg, hag])
        simp only [rdV]
        cases hd : cur.toList.drop off with
        | nil => simp
        | cons a b =>
          cases n with
          | zero => omega
          | succ n => simp
    rw [← e]
    simp [hv, Instr.loadAt, Instr.sureAddr, hrun]
  cases p with
  | ptr id off =>
    obtain ⟨o, ho, h⟩ := getK_iff h
    obtain ⟨b, hb, hro⟩ := r.obj ho
    cases o with
    | box bt cs =>
      obtain ⟨hle, h2⟩ := ifK_iff h
      obtain ⟨g, cur, hbv, hg, hcs⟩ := hro
      obtain ⟨g', hb', hv⟩ := hp
      rw [hb, hbv] at hb'
      obtain rfl : g = g' := by cases hb'; rfl
      have hle := Nat.le_of_ble_eq_true hle
      have hlen : cs.length = cur.size := by simpa using All2.length hcs
      have hd := hcs.drop off
      refine go g off cur bt (0, 0) (cs.drop off) hv hg (by omega) h2 (cur.size - off) ?_ (by omega) (fun w' hw => by
        rcases hw with hw | ⟨id', off', bt', cs', e, hb2, hk⟩
        · exact hw.block g (Array.getElem?_eq_some_iff.1 hg).1
        · cases e
          rw [ho] at hb2
          cases hb2
          exact hk.block g cur (0, 0) hg)
      rw [List.take_of_length_le (by simp)]
      exact hd
    | _ => exact h.elim
  | ept id n sz off =>
    obtain ⟨o, ho, h⟩ := getK_iff h
    obtain ⟨b, hb, hro⟩ := r.obj ho
    cases o with
    | row e k l =>
      obtain ⟨hc, h2⟩ := ifK_iff h
      simp only [Bool.and_eq_true] at hc
      have hsz : sz = k.sz := Nat.eq_of_beq_eq_true hc.1
      have hle := Nat.le_of_ble_eq_true hc.2
      obtain ⟨xs, hown, hrow⟩ := hro
      obtain ⟨g, o0, m, c, hb', hn0, hnm, hv⟩ := hp
      rw [hb] at hb'
      cases hb'
      rcases hown.2 with ⟨hv', _⟩ | ⟨g', o1, cap, cur, hv', hg, hnc, _, hcs, htake⟩
      · cases hv'
      · cases hv'
        subst hsz
        have hlt : n.toNat < l.length := by omega
        have hget : l[n.toNat]? = some (getE k l n) := by
          simp [getE, List.getD, List.getElem?_eq_getElem hlt]
        have hx := hrow.get hget
        have hlv := leaves_rel (β := β) hx
        have hmul : n.toNat * k.sz + k.sz ≤ l.length * k.sz := by
          have : (n.toNat + 1) * k.sz ≤ l.length * k.sz := Nat.mul_le_mul_right _ hlt
          rw [Nat.add_mul, Nat.one_mul] at this; exact this
        have hcap : o0 + l.length * k.sz ≤ cur.size := by have : l.length * k.sz ≤ c * k.sz := Nat.mul_le_mul_right _ hnc; omega
        refine go g (o0 + n.toNat * k.sz + off) cur e (0, 0) _ hv hg (by omega) h2 (k.sz - off) ?_ (by omega) (fun w' hw => by
          rcases hw with hw | ⟨_, _, _, _, e, _⟩
          · exact hw.block g (Array.getElem?_eq_some_iff.1 hg).1
          · cases e)
        have := hlv.drop off
        have e2 : List.drop off (List.take k.sz (List.drop (n.toNat * k.sz) xs)) = ((cur.toList.drop (o0 + n.toNat * k.sz + off)).take (k.sz - off)) := by
          rw [List.drop_take, List.drop_drop, ← htake, List.drop_take, List.take_take, List.drop_drop, Nat.add_assoc o0]
          congr 1
          omega
        rw [e2] at this
        exact this
    | _ => exact h.elim
  | rp k x off =>
    obtain ⟨hle, h⟩ := ifK_iff h
    have hle := Nat.le_of_ble_eq_true hle
    obtain ⟨g, o, cur, e, fr, hv, _, hg, hsz, hx⟩ := hp
    refine go g (o + off) cur e fr _ hv hg (by omega) h (k.sz - off) ?_ (by omega) (fun w' hw => by
      rcases hw with hw | ⟨_, _, _, _, e, _⟩
      · exact hw.block g (Array.getElem?_eq_some_iff.1 hg).1
      · cases e)
    have := (leaves_rel (β := β) hx).drop off
    rw [List.drop_take, List.drop_drop] at this
    exact this
  | _ => exact h.elim

theorem loadK_sound (hT : ttOk P T = true) {st : St} (r : RelH w Ok β st.heap) {t : TypeId} {p : Lf} {v : Value} {Q : V1 → Prop} (h : loadK T st t p Q) (hp : RelV1 w Ok β (.one p) v) :
    ∃ x u, Q x ∧ RelV1 w Ok β x u ∧ ∀ w' : World, Grow w w' → (Instr.loadAt t v).run P w' = .ok u w' := by
  obtain ⟨x, u, h1, h2, h3⟩ := loadK_sees hT r h hp
  exact ⟨x, u, h1, h2, fun w' hw => h3 w' (.inl hw)⟩

/-! ### parts filled in -/
theorem putL_cons {l : List Value} {p : Nat} {v : Value} {vs : List Value} (h : p < l.length) : putL (l.set p v) (p + 1) vs = putL l p (v :: vs) := by
  unfold putL
  have e1 : (l.set p v).take (p + 1) = l.take p ++ [v] := by
    rw [List.take_add_one, List.take_set_of_le (Nat.le_refl p)]
    simp [h]
  have e2 : (l.set p v).drop (p + 1 + vs.length) = l.drop (p + (v :: vs).length) := by
    rw [List.drop_set_of_lt (by omega)]
    simp [Nat.add_assoc, Nat.add_comm 1]
  rw [e1, e2]
  simp
theorem putFold (off : Nat) : ∀ (vs : List Value) (k : Nat) (cells : Array Value), off + k + vs.length ≤ cells.size →
    ((vs.zipIdx k).foldl (fun (cs : Array Value) (x : Value × Nat) => cs.setIfInBounds (off + x.2) x.1) cells).toList = putL cells.toList (off + k) vs
  | [], k, cells, _ => by simp [putL]
  | v :: vs, k, cells, h => by
    simp only [List.zipIdx_cons, List.foldl_cons]
    rw [putFold off vs (k + 1) _ (by simpa [Nat.add_assoc, Nat.add_comm 1] using h)]
    rw [Array.toList_setIfInBounds, show off + (k + 1) = off + k + 1 by omega, putL_cons (by simp at h ⊢; omega)]
theorem fill_put (vs cells : Array Value) (off : Nat) (h : off + vs.size ≤ cells.size) :
    (vs.zipIdx.foldl (fun (cs : Array Value) (x : Value × Nat) => cs.setIfInBounds (off + x.2) x.1) cells).toList = putL cells.toList off vs.toList := by
  rw [← Array.foldl_toList, Array.toList_zipIdx]
  exact putFold off vs.toList 0 cells (by simpa using h)
theorem fillL_sound {fs : List (Nat × Nat × Bool)} {pl : Nat → Option (Nat × Nat)} (hpl : ∀ i x, fs[i]? = some x → pl i = some (x.1, x.2.1)) :
    ∀ {vs : List (Nat × V1)} {ps : List (Nat × Value)} {cs cs' : List Lf} {us : Array Value}, fillL fs vs cs = some cs' → All2 (fun x (p : Nat × Value) => x.1 = p.1 ∧ RelV1 w Ok β x.2 p.2) vs ps →
      All2 (RelL w Ok β) cs us.toList → ∃ us', Instr.fill pl us ps = some us' ∧ All2 (RelL w Ok β) cs' us'.toList
  | [], [], cs, cs', us, h, _, hr => by
    simp only [fillL] at h
    cases h
    exact ⟨us, rfl, hr⟩
  | (i, x) :: vs, (j, v) :: ps, cs, cs', us, h, hv, hr => by
    obtain ⟨⟨rfl, hx⟩, hv⟩ := hv
    simp only [fillL] at h
    split at h
    · rename_i off n ag hfs
      split at h
      · rename_i hc
        obtain ⟨hd, hn, hle⟩ := hc
        have hcells := (hx.cells hd).1
        have hsz : v.cells.size = n := by have := hcells.length; simp at this; omega
        have hus : cs.length = us.size := by have := hr.length; rwa [Array.length_toList] at this
        have hput := hr.put off hcells
        rw [← fill_put v.cells us off (by omega)] at hput
        obtain ⟨us', h1, h2⟩ := fillL_sound hpl h hv hput
        refine ⟨us', ?_, h2⟩
        have hno : (v.cells.size != n || decide (off + v.cells.size > us.size)) = false := by
          simp [hsz]; omega
        have hno' : (decide (v.cells.size ≠ n) || decide (off + v.cells.size > us.size)) = false := by
          simp [hsz]; omega
        simp only [Instr.fill, hpl _ _ hfs]
        first
          | (rw [if_neg (by simp [hsz]; omega)]; exact h1)
      · cases h
    · cases h
  | [], _ :: _, _, _, _, _, hv, _ => hv.elim
  | _ :: _, [], _, _, _, _, hv, _ => hv.elim
end
end Go.AM
namespace Go.AM
open Go.RowKit
section
variable {P : Program} {T : TT} {E : Env} {w : World} {Ok : Nat → Prop} {β : List Value}
theorem isBoolT_spec (hT : ttOk P T = true) {t : TypeId} (h : isBoolT T t = true) : P.underlying t = some .bool := by
  unfold isBoolT at h
  split at h
  · rename_i i hi
    split at h
    · rename_i hk
      obtain ⟨pi, d, z, f⟩ := ti_facts hT hi
      have := f.kd
      rw [hk] at this
      rw [f.und]
      cases d <;> simp [kdOk] at this
      rfl
    · cases h
  · cases h
theorem isStrT_spec (hT : ttOk P T = true) {t : TypeId} (h : isStrT T t = true) : P.underlying t = some .string := by
  unfold isStrT at h
  split at h
  · rename_i i hi
    split at h
    · rename_i hk
      obtain ⟨pi, d, z, f⟩ := ti_facts hT hi
      have := f.kd
      rw [hk] at this
      rw [f.und]
      cases d <;> simp [kdOk] at this
      rfl
    · cases h
  · cases h
theorem byteAt_eq {s : ByteArray} {i : Nat} (h : i < s.size) : byteAt s i = ((s[i]'h).toNat : Int) := by
  have h2 : i < s.data.size := h
  simp only [byteAt]
  rw [← Array.getElem_eq_getD (h := h2)]
  rfl
theorem binK_sound (hT : ttOk P T = true) {o : BinOp} {x y : Lf} {Q : Lf → Prop} {t : TypeId} (h : binK (isBoolT T t) (skind T t).isSome o x y Q) {u v : Value} (hx : RelV1 w Ok β (.one x) u) (hy : RelV1 w Ok β (.one y) v) :
    ∃ r z, Q r ∧ RelL w Ok β r z ∧ ∀ (w' : World) (X Y : Operand), (do eqGuard o t X Y u v; binOp o t u v : Sem Value).run P w' = .ok z w' := by
  unfold binK at h
  split at h
  · rename_i k a k' b
    obtain ⟨hk, h2⟩ := ifK_iff h
    have hk : k = k' := by simpa using hk
    subst hk
    have hu : u = .int k a := hx
    have hv : v = .int k b := hy
    subst hu; subst hv
    clear h hx hy hk
    have hg : ∀ (w' : World) (X Y : Operand), (eqGuard o t X Y (.int k a) (.int k b)).run P w' = .ok () w' := by
      intro w' X Y; unfold eqGuard; split <;> simp
    split at h2
    · exact ⟨_, .int k (k.wrap (a + b)), h2, rfl, fun w' X Y => by simp [hg, binOp, Op.intArith]⟩
    · exact ⟨_, .int k (k.wrap (a - b)), h2, rfl, fun w' X Y => by simp [hg, binOp, Op.intArith]⟩
    · exact ⟨_, .int k (k.wrap (a * b)), h2, rfl, fun w' X Y => by simp [hg, binOp, Op.intArith]⟩
    · exact ⟨_, .int k (k.wrap (a.tdiv b)), h2.2, rfl, fun w' X Y => by simp [hg, binOp, Op.intDiv, h2.1]⟩
    · obtain ⟨r, hr, hq⟩ := someK_iff h2
      refine ⟨_, .bool r, hq, rfl, fun w' X Y => ?_⟩
      unfold cmpI at hr
      split at hr <;> cases hr <;> simp [hg, binOp, Op.intCmp]
  · rename_i a b
    have hu : u = .string a := hx
    have hv : v = .string b := hy
    subst hu; subst hv
    have hg : ∀ (w' : World) (X Y : Operand), (eqGuard o t X Y (.string a) (.string b)).run P w' = .ok () w' := by
      intro w' X Y; unfold eqGuard; split <;> simp
    split at h
    · exact ⟨_, .bool (a.toList == b.toList), h, rfl, fun w' X Y => by simp [hg, binOp, Op.stringOp]⟩
    · exact ⟨_, .bool (a.toList != b.toList), h, rfl, fun w' X Y => by simp [hg, binOp, Op.stringOp, bne]⟩
    · exact h.elim
  · rename_i a b
    obtain ⟨hb, h2⟩ := ifK_iff h
    have hu : u = .bool a := hx
    have hv : v = .bool b := hy
    subst hu; subst hv
    clear h hx hy
    have hg : ∀ (w' : World) (X Y : Operand), (eqGuard o t X Y (.bool a) (.bool b)).run P w' = .ok () w' := by
      intro w' X Y; unfold eqGuard; split <;> simp
    have he : ∀ w' : World, (Op.equal t (.bool a) (.bool b)).run P w' = .ok (a == b) w' := fun w' => run_equal_bool w' t a b (isBoolT_spec hT hb)
    split at h2
    · exact ⟨_, .bool (a == b), h2, rfl, fun w' X Y => by simp [hg, binOp, he]⟩
    · exact ⟨_, .bool (a != b), h2, rfl, fun w' X Y => by simp [hg, binOp, he, bne]⟩
    · exact h2.elim
  · rename_i e k l
    obtain ⟨hb, h2⟩ := ifK_iff h
    have hv : v = .slice none 0 0 := hy
    subst hv
    obtain ⟨⟨e', k'⟩, hek⟩ := Option.isSome_iff_exists.1 hb
    obtain ⟨ie, z, hu, _⟩ := skind_facts hT hek
    have hul : ∃ a n c, u = .slice a n c ∧ (a = none → l = []) := by
      rcases hx with ⟨hl, a, rfl⟩ | ⟨g, off, cap, cur, t, fr, rfl, _⟩
      · exact ⟨a, 0, 0, rfl, fun _ => hl⟩
      · exact ⟨some ⟨g, off, none⟩, l.length, cap, rfl, fun h => by cases h⟩
    obtain ⟨ad, n, c, rfl, hn⟩ := hul
    have hg : ∀ (w' : World) (X Y : Operand), (eqGuard o t X Y (.slice ad n c) (.slice none 0 0)).run P w' = .ok () w' := by
      intro w' X Y; unfold eqGuard; split <;> simp
    have he : ∀ w' : World, (Op.equal t (.slice ad n c) (.slice none 0 0)).run P w' = .ok ad.isNone w' := fun w' => run_equal_slice_nil w' t e' ad n c hu
    clear h hx hy
    split at h2
    · exact ⟨_, .bool ad.isNone, h2 ad.isNone (fun h => hn (by simpa using h)), rfl, fun w' X Y => by simp [hg, binOp, he]⟩
    · exact ⟨_, .bool (!ad.isNone), h2 ad.isNone (fun h => hn (by simpa using h)), rfl, fun w' X Y => by simp [hg, binOp, he]⟩
    · exact h2.elim
  · exact h.elim

theorem idxB_sound {x : Int} {Q : Nat → Prop} : ∀ {n j : Nat}, idxB x Q n j → ∀ m, j ≤ m → m < j + n → x = (m : Int) → Q m
  | 0, j, _, m, h1, h2, _ => by omega
  | n + 1, j, h, m, h1, h2, hx => by
    unfold idxB at h
    by_cases e : m = j
    · subst e
      rw [show decide (x = (m : Int)) = true from decide_eq_true hx] at h
      exact h
    · rw [show decide (x = (j : Int)) = false from decide_eq_false (by omega)] at h
      exact idxB_sound (show idxB x Q n (j + 1) from h) m (by omega) (by omega) hx

theorem field_facts {t : TypeId} {i : TI} {pi : TypeInfo} {d : TypeDesc} {z : Value} (f : TiFacts P t i pi d z) {fs : Array Field} (hd : d = .struct fs) {j : Nat} {x : Nat × Nat × Bool} (hx : i.fields[j]? = some x) :
    ∃ fl ti dd, fs[j]? = some fl ∧ fl.offset = x.1 ∧ 0 < x.2.1 ∧ P.info? fl.type = some ti ∧ ti.size = x.2.1 ∧ P.underlying fl.type = some dd ∧ aggOf dd = x.2.2 := by
  have h := f.desc
  subst hd
  have h2 : All2 (fun x y => fieldOk P x y = true) i.fields fs.toList := all2B_spec (fun _ _ h => h) (by simp only [descOk, Bool.and_eq_true] at h; exact h.2)
  obtain ⟨fl, hfl, ho⟩ := h2.get hx
  simp only [fieldOk, Bool.and_eq_true] at ho
  obtain ⟨⟨⟨h1, h0⟩, h3⟩, h4⟩ := ho
  split at h3
  · rename_i ti hti
    split at h4
    · rename_i dd hdd
      exact ⟨fl, ti, dd, by simpa using hfl, by simpa using h1, by simpa using h0, hti, by simpa using h3, hdd, by simpa using h4⟩
    · cases h4
  · cases h3
theorem struct_of {t : TypeId} {i : TI} {pi : TypeInfo} {d : TypeDesc} {z : Value} (f : TiFacts P t i pi d z) {j : Nat} {x : Nat × Nat × Bool} (hx : i.fields[j]? = some x) (hl : Nat.beq i.len 0 = true) :
    ∃ fs, d = .struct fs := by
  have hd := f.desc
  have hne : i.fields ≠ [] := by rintro e; rw [e] at hx; simp at hx
  cases d with
  | struct fs => exact ⟨fs, rfl⟩
  | array n e =>
    exfalso
    simp only [descOk, Bool.and_eq_true, beq_iff_eq] at hd
    obtain ⟨⟨h1, _⟩, h2⟩ := hd
    rw [Nat.eq_of_beq_eq_true hl] at h1
    split at h2
    · subst h1
      simp at h2
      exact hne h2
    · cases h2
  | slice e => exfalso; simp only [descOk, Bool.and_eq_true, List.isEmpty_iff] at hd; exact hne hd.1.2
  | _ => exfalso; simp only [descOk, Bool.and_eq_true, List.isEmpty_iff] at hd; exact hne hd.2
theorem array_len {t : TypeId} {i : TI} {pi : TypeInfo} {d : TypeDesc} {z : Value} (f : TiFacts P t i pi d z) (hl : i.len ≠ 0) : ∃ n e, d = .array n e := by
  have hd := f.desc
  cases d with
  | array n e => exact ⟨n, e, rfl⟩
  | slice e => exfalso; simp only [descOk, Bool.and_eq_true] at hd; exact hl (Nat.eq_of_beq_eq_true hd.1.1)
  | _ => exfalso; simp only [descOk, Bool.and_eq_true] at hd; exact hl (Nat.eq_of_beq_eq_true hd.1)
/-- An array type's parts. -/
theorem array_of {t : TypeId} {i : TI} {pi : TypeInfo} {d : TypeDesc} {z : Value} (f : TiFacts P t i pi d z) {n : Nat} {e : TypeId} (hd : d = .array n e) :
    i.len = n ∧ i.elem = e ∧ ∃ ie de, P.info? e = some ie ∧ P.underlying e = some de ∧ i.fields = (List.range n).map fun j => (j * ie.size, ie.size, aggOf de) := by
  have h := f.desc
  subst hd
  simp only [descOk, Bool.and_eq_true, beq_iff_eq] at h
  obtain ⟨⟨h1, h2⟩, h3⟩ := h
  split at h3
  · rename_i ie de hie hde
    exact ⟨h1, h2, ie, de, hie, hde, by simpa using h3⟩
  · cases h3
theorem mapM_all2 {α γ : Type} {g : α → Option γ} : ∀ {l : List α} {l' : List γ}, l.mapM g = some l' → All2 (fun b a => g a = some b) l' l
  | [], l', h => by simp at h; subst h; trivial
  | x :: l, l', h => by
    simp only [List.mapM_cons, Option.bind_eq_bind, Option.pure_def, Option.bind_eq_some_iff] at h
    obtain ⟨y, hy, ys, hys, e⟩ := h
    cases e
    exact ⟨hy, mapM_all2 hys⟩
theorem all2_mapM {α γ : Type} {g : α → Option γ} : ∀ {l : List α} {l' : List γ}, All2 (fun b a => g a = some b) l' l → l.mapM g = some l'
  | [], [], _ => rfl
  | x :: l, y :: l', h => by
    simp only [List.mapM_cons, h.1, all2_mapM h.2]; rfl
  | [], _ :: _, h => h.elim
  | _ :: _, [], h => h.elim
theorem all2_flip {α γ : Type} {R : α → γ → Prop} : ∀ {l : List α} {m : List γ}, All2 R l m → All2 (fun b a => R a b) m l
  | [], [], _ => trivial
  | _ :: _, _ :: _, h => ⟨h.1, all2_flip h.2⟩
theorem built_sound {t : TypeId} {i : TI} {pi : TypeInfo} {d : TypeDesc} {z : Value} (f : TiFacts P t i pi d z) {vs : List (Nat × V1)} {ps : List (Nat × Value)} {cs : List Lf} (hf : fillL i.fields vs i.zero = some cs)
    (hv : All2 (fun x (p : Nat × Value) => x.1 = p.1 ∧ RelV1 w Ok β x.2 p.2) vs ps) (hag : aggOf d = true) : ∃ us, P.built t ps = some us ∧ All2 (RelL w Ok β) cs us.toList := by
  cases d with
  | struct fs =>
    have h := f.desc
    have h2 : All2 (fun x y => fieldOk P x y = true) i.fields fs.toList := all2B_spec (fun _ _ h => h) (by simp only [descOk, Bool.and_eq_true] at h; exact h.2)
    have hm : fs.toList.mapM (fun f => (P.info? f.type).map fun i => (f.offset, i.size)) = some (i.fields.map fun x => (x.1, x.2.1)) := by
      refine all2_mapM (All2.map (fun x => (x.1, x.2.1)) (h2.mono fun x fl ho => ?_))
      simp only [fieldOk, Bool.and_eq_true] at ho
      obtain ⟨⟨⟨h1, _⟩, h3⟩, _⟩ := ho
      split at h3
      · rename_i ti hti
        simp only [beq_iff_eq] at h1 h3
        simp [hti, h1, h3]
      · cases h3
    obtain ⟨us, h1, h2⟩ := fillL_sound (w := w) (Ok := Ok) (β := β) (pl := ((i.fields.map fun x => (x.1, x.2.1)).toArray[·]?)) (fun j x hx => by simp [hx]) hf hv (f.zeroR w Ok β)
    exact ⟨us, by simp only [Program.built, f.info, f.und, f.zero, hm]; exact h1, h2⟩
  | array n e =>
    obtain ⟨_, _, ie, de, hie, _, hfs⟩ := array_of f rfl
    obtain ⟨us, h1, h2⟩ := fillL_sound (w := w) (Ok := Ok) (β := β) (pl := fun i => some (i * ie.size, ie.size)) (fun j x hx => by
      rw [hfs, List.getElem?_map] at hx
      cases hr : (List.range n)[j]? with
      | none => rw [hr] at hx; cases hx
      | some m =>
        rw [hr] at hx
        cases hx
        have : m = j := by
          rw [List.getElem?_eq_some_iff] at hr
          obtain ⟨_, hr⟩ := hr
          simpa using hr.symm
        subst this
        rfl) hf hv (f.zeroR w Ok β)
    exact ⟨us, by simp only [Program.built, f.info, f.und, f.zero, hie]; exact h1, h2⟩
  | _ => simp [aggOf] at hag
/-- What an operation that only reads yields: whatever the world, if it does not look at memory. -/
def Pure1 (P : Program) (o : Oper) (a : Act) (w : World) (v : Value) : Prop := ∀ w' : World, (isLoad o = true → Grow w w') → (execOp a.eval o).run P w' = .ok (.value v) w'
theorem RelV1.int1 {k : IntKind} {x : Int} {v : Value} (h : RelV1 w Ok β (.one (.int k x)) v) : v = .int k x := h
theorem aop_pure (hT : ttOk P T = true) {o : Oper} (hc : isAct o = false) {st : St} {a : Act} (r : RelS w Ok β st a.tmps.toList) {K : V → St → Prop} (h : aop T E o st K) :
    ∃ av v, K av st ∧ RelV w Ok β av v ∧ Pure1 P o a w v := by
  unfold Pure1
  cases hop : o.op with
  | move x =>
    simp only [aop, hop] at h
    obtain ⟨v, hq, hr⟩ := evK_sound r h
    exact ⟨v, _, hq, hr, fun w' _ => by simp [execOp, hop]⟩
  | pick c x y =>
    simp only [aop, hop] at h
    obtain ⟨l, hq, hr⟩ := evL_sound r h
    cases l with
    | bool d =>
      have hcv : a.eval c = .bool d := hr
      cases d with
      | true =>
        obtain ⟨v, hq, hr⟩ := evK_sound r hq
        exact ⟨v, _, hq, hr, fun w' _ => by simp [execOp, hop, hcv, asBool]⟩
      | false =>
        obtain ⟨v, hq, hr⟩ := evK_sound r hq
        exact ⟨v, _, hq, hr, fun w' _ => by simp [execOp, hop, hcv, asBool]⟩
    | _ => exact hq.elim
  | load t p =>
    simp only [aop, hop] at h
    obtain ⟨l, hq, hr⟩ := evL_sound r h
    obtain ⟨x, u, hq, hx, hrun⟩ := loadK_sound hT r.h hq hr
    exact ⟨.v x, u, hq, hx, fun w' hw => by simp [execOp, hop, hrun w' (hw (by simp [isLoad, clsOf, hop]))]⟩
  | binOp b t x y yt =>
    simp only [aop, hop] at h
    obtain ⟨l1, hq, h1⟩ := evL_sound r h
    obtain ⟨l2, hq, h2⟩ := evL_sound r hq
    obtain ⟨l, z, hq, hz, hrun⟩ := binK_sound hT hq h1 h2
    refine ⟨_, z, hq, RelV1.of hz, fun w' _ => ?_⟩
    have := hrun w' x y
    simp only [execOp, hop]
    rw [Sem.run_bind, this]
    simp
  | unOp u t x =>
    cases u with
    | not =>
      simp only [aop, hop] at h
      obtain ⟨l, hq, hr⟩ := evL_sound r h
      cases l with
      | bool b =>
        have hcv : a.eval x = .bool b := hr
        exact ⟨_, .bool (!b), hq, rfl, fun w' _ => by simp [execOp, hop, hcv, Op.unary]⟩
      | _ => exact hq.elim
    | _ => simp only [aop, hop] at h
  | extract x j =>
    simp only [aop, hop] at h
    obtain ⟨v, hq, hr⟩ := evK_sound r h
    cases v with
    | tup xs =>
      obtain ⟨y, hy, hq⟩ := getK_iff hq
      obtain ⟨vs, hvs, hall⟩ := hr
      obtain ⟨u, hu, hur⟩ := hall.get hy
      have hu' : vs[j]? = some u := by simpa using hu
      exact ⟨_, u, hq, hur, fun w' _ => by simp [execOp, hop, hvs, Instr.extract, hu']⟩
    | v _ => exact hq.elim
  | fieldAddr t p j =>
    simp only [aop, hop] at h
    obtain ⟨l, hq, hr⟩ := evL_sound r h
    obtain ⟨i, hi, hq⟩ := someK_iff hq
    obtain ⟨hl0, hq⟩ := ifK_iff hq
    obtain ⟨x, hx, hq⟩ := getK_iff hq
    obtain ⟨pi, d, z, f⟩ := ti_facts hT hi
    have key : ∀ g off, a.eval p = .pointer (some ⟨g, off, none⟩) → ∀ w' : World, (execOp a.eval o).run P w' = .ok (.value (.pointer (some ⟨g, off + x.1, none⟩))) w' := by
      rintro g off hv w'
      obtain ⟨fs, hd⟩ := struct_of f hx hl0
      obtain ⟨fl, ti, dd, h1, h2, h3, h4, h5, _⟩ := field_facts f hd hx
      have hu := f.und
      rw [hd] at hu
      have hne : ti.size ≠ 0 := by omega
      simp [execOp, hop, Instr.fieldAt, run_underlying hu, h1, hv, Instr.sureAddr, fieldPlace, run_sizeOf h4, hne, Addr.add_lit, h2]
    cases l with
    | ptr id off =>
      obtain ⟨g, h1, h2⟩ := hr
      exact ⟨_, _, hq, ⟨g, h1, rfl⟩, fun w' _ => key g off h2 w'⟩
    | ept id n sz off =>
      obtain ⟨g, o0, m, c, h1, h2, h3, h4⟩ := hr
      exact ⟨_, _, hq, ⟨g, o0, m, c, h1, h2, h3, by rw [← Nat.add_assoc]⟩, fun w' _ => key g _ h4 w'⟩
    | rp k y off =>
      obtain ⟨g, ob, cur, e, fr, h1, h2⟩ := hr
      exact ⟨_, _, hq, ⟨g, ob, cur, e, fr, by rw [← Nat.add_assoc], h2⟩, fun w' _ => key g _ h1 w'⟩
    | _ => exact hq.elim
  | field t x j =>
    simp only [aop, hop] at h
    obtain ⟨v, hq, hr⟩ := ev1_sound r h
    obtain ⟨i, hi, hq⟩ := someK_iff hq
    obtain ⟨hl0, hq⟩ := ifK_iff hq
    obtain ⟨y, hy, hq⟩ := getK_iff hq
    obtain ⟨pi, d, z, f⟩ := ti_facts hT hi
    obtain ⟨fs, hd⟩ := struct_of f hy hl0
    obtain ⟨fl, ti, dd, h1, h2, h3, h4, h5, h6, h7⟩ := field_facts f hd hy
    have hu := f.und
    rw [hd] at hu
    cases v with
    | agg cs =>
      obtain ⟨hle, hq⟩ := ifK_iff hq
      have hle := Nat.le_of_ble_eq_true hle
      obtain ⟨vs, hvs, hall⟩ := hr
      have hlen : cs.length = vs.size := by simpa using hall.length
      have hrun : ∀ w' : World, (execOp a.eval o).run P w' = .ok (.value (rdV (aggOf dd) ti.size (vs.toList.drop y.1))) w' := by
        intro w'
        have := run_part_at (P := P) h4 h6 (w := w') (cs := vs) (off := fl.offset) (fun _ => by omega)
        rw [h2] at this
        simp [execOp, hop, Instr.field, run_underlying hu, h1, hvs, asAgg, this, h2]
      have hdr := hall.drop y.1
      cases hag : y.2.2 with
      | true =>
        rw [hag] at hq
        refine ⟨_, _, hq, ?_, fun w' _ => hrun w'⟩
        rw [h7, hag, h5]
        refine ⟨_, rfl, ?_⟩
        simpa [cutL] using hdr.take y.2.1
      | false =>
        rw [hag] at hq
        refine (?_ : _)
        cases hcd : cs.drop y.1 with
        | nil => rw [hcd] at hq; exact hq.elim
        | cons c cs' =>
          rw [hcd] at hq hdr
          cases hud : vs.toList.drop y.1 with
          | nil => rw [hud] at hdr; exact hdr.elim
          | cons u us =>
            rw [hud] at hdr
            refine ⟨_, _, hq, ?_, fun w' _ => hrun w'⟩
            rw [h7, hag, hud]
            exact RelV1.of hdr.1
    | one _ => exact hq.elim
  | indexAddr t s x =>
    simp only [aop, hop] at h
    obtain ⟨l, hq, hr⟩ := evL_sound r h
    obtain ⟨ik, n, hq, hx⟩ := evI_sound r hq
    have key : ∀ e (ie : TypeInfo) g off m c, P.underlying t = some (.slice e) → P.info? e = some ie → a.eval s = .slice (some ⟨g, off, none⟩) m c → bound n m →
        ∀ w' : World, (execOp a.eval o).run P w' = .ok (.value (.pointer (some ⟨g, off + n.toNat * ie.size, none⟩))) w' := by
      intro e ie g off m c hu hie hs hb w'
      simp [execOp, hop, Instr.indexAt, hx, asIntOf, run_underlying hu, hs, hb.1, hb.2, run_sizeOf hie, Addr.add_lit]
    cases l with
    | sl e k l =>
      obtain ⟨⟨e', k'⟩, hek, hq⟩ := someK_iff hq
      obtain ⟨hsz, hb, hq⟩ := ifK_iff hq
      have hsz := Nat.eq_of_beq_eq_true hsz
      obtain ⟨ie, z, hu, hie, hsi, _⟩ := skind_facts hT hek
      have hlt : n.toNat < l.length := by have := hb.1; have := hb.2; omega
      rcases hr with ⟨rfl, _⟩ | ⟨g, off, cap, cur, tg, fr, hv, hok, hg, hc, hf, hrow⟩
      · simp at hlt
      · have hget : l[n.toNat]? = some (getE k l n) := by simp [getE, List.getD, List.getElem?_eq_getElem hlt]
        have hx := hrow.get hget
        have hmul : n.toNat * k.sz + k.sz ≤ l.length * k.sz := by
          have : (n.toNat + 1) * k.sz ≤ l.length * k.sz := Nat.mul_le_mul_right _ hlt
          rw [Nat.add_mul, Nat.one_mul] at this; exact this
        refine ⟨_, _, hq, ⟨g, off + n.toNat * k.sz, cur, tg, fr, rfl, hok, hg, by omega, ?_⟩, fun w' _ => ?_⟩
        · have e2 : List.take k.sz (List.drop (n.toNat * k.sz) (List.take (l.length * k.sz) (List.drop off cur.toList))) = (cur.toList.drop (off + n.toNat * k.sz)).take k.sz := by
            rw [List.drop_take, List.drop_drop, List.take_take]
            congr 1
            omega
          rw [e2] at hx
          exact hx
        · have := key e' ie g off l.length cap hu hie hv hb w'
          rw [this, hsi]
          simp only at hsz
          rw [hsz]
          rfl
    | own id =>
      obtain ⟨ob, ho, hq⟩ := getK_iff hq
      obtain ⟨b, hb', hro⟩ := r.h.obj ho
      cases ob with
      | row e k l =>
        obtain ⟨⟨e', k'⟩, hek, hq⟩ := someK_iff hq
        obtain ⟨hsz, hb, hq⟩ := ifK_iff hq
        have hsz := Nat.eq_of_beq_eq_true hsz
        obtain ⟨ie, z, hu, hie, hsi, _⟩ := skind_facts hT hek
        obtain ⟨h1, _⟩ := hr
        rw [hb'] at h1
        obtain rfl : b = a.eval s := by cases h1; rfl
        obtain ⟨xs, hown, hrow⟩ := hro
        rcases hown.2 with ⟨_, hn⟩ | ⟨g, o0, cap, cur, hv, hg, hnc, _⟩
        · have := hb.1; have := hb.2; omega
        · refine ⟨_, _, hq, ⟨g, o0, l.length, cap, by rw [hb', hv], hb.1, hb.2, rfl⟩, fun w' _ => ?_⟩
          have := key e' ie g o0 l.length cap hu hie hv hb w'
          rw [this, hsi]
          simp only at hsz
          rw [hsz, Nat.add_zero]
      | _ => exact hq.elim
    | ptr id off =>
      obtain ⟨i, hi, hq⟩ := someK_iff hq
      obtain ⟨ie, hie, hq⟩ := someK_iff hq
      obtain ⟨hb, hq⟩ := hq
      have hb1 := hb.1
      have hb2 := hb.2
      have hm : n.toNat < i.len := by omega
      have hq := idxB_sound hq n.toNat (Nat.zero_le _) (by omega) (by omega)
      obtain ⟨pi, d, z, f⟩ := ti_facts hT hi
      obtain ⟨pe, de, ze, fe⟩ := ti_facts hT hie
      obtain ⟨len, e, hd⟩ := array_len f (by omega)
      obtain ⟨h1, h2, _⟩ := array_of f hd
      have hu := f.und
      rw [hd] at hu
      obtain ⟨g, hb, hv⟩ := hr
      refine ⟨_, .pointer (some ⟨g, off + n.toNat * ie.zero.length, none⟩), hq, ⟨g, hb, rfl⟩, fun w' _ => ?_⟩
      have he : P.info? e = some pe := by rw [← h2]; exact fe.info
      have hlt : n < (len : Int) := by omega
      simp [execOp, hop, Instr.indexAt, hx, asIntOf, run_underlying hu, hv, Instr.sureAddr, hb1, hlt, run_sizeOf he, Addr.add_lit, fe.size]
    | _ => exact hq.elim
  | index t x y =>
    simp only [aop, hop] at h
    obtain ⟨v, hq, hr⟩ := ev1_sound r h
    obtain ⟨ik, n, hq, hx⟩ := evI_sound r hq
    obtain ⟨i, hi, hq⟩ := someK_iff hq
    cases v with
    | one l =>
      cases l with
      | str s =>
        obtain ⟨hs, hb, hq⟩ := ifK_iff hq
        have hu := isStrT_spec hT hs
        have hv : a.eval x = .string s := hr
        have hlt : n.toNat < s.size := by have := hb.1; have := hb.2; omega
        refine ⟨_, .int .u8 (byteAt s n.toNat), hq, rfl, fun w' _ => ?_⟩
        have := run_index_string (P := P) w' t s ik n hu
        rw [dif_pos ⟨hb.1, hb.2⟩] at this
        simp [execOp, hop, hv, hx, this, byteAt_eq hlt]
      | _ => exact hq.elim
    | agg cs =>
      obtain ⟨ie, hie, hq⟩ := someK_iff hq
      obtain ⟨hlen, hb, hq⟩ := ifK_iff hq
      have hlen : cs.length = i.len * ie.zero.length := by simpa using hlen
      obtain ⟨pi, d, z, f⟩ := ti_facts hT hi
      obtain ⟨pe, de, ze, fe⟩ := ti_facts hT hie
      have hb1 := hb.1
      have hb2 := hb.2
      have hlt : n.toNat < i.len := by omega
      obtain ⟨len, e, hd⟩ := array_len f (by omega)
      obtain ⟨h1, h2, _⟩ := array_of f hd
      have hu := f.und
      rw [hd] at hu
      have he : P.info? e = some pe := by rw [← h2]; exact fe.info
      have hue : P.underlying e = some de := by rw [← h2]; exact fe.und
      obtain ⟨vs, hvs, hall⟩ := hr
      have hvl : cs.length = vs.size := by simpa using hall.length
      have hq := idxB_sound hq n.toNat (Nat.zero_le _) (by omega) (by omega)
      have hmul : n.toNat * ie.zero.length + ie.zero.length ≤ vs.size := by
        have : (n.toNat + 1) * ie.zero.length ≤ i.len * ie.zero.length := Nat.mul_le_mul_right _ hlt
        rw [Nat.add_mul, Nat.one_mul] at this
        omega
      have hrun : ∀ w' : World, (execOp a.eval o).run P w' = .ok (.value (rdV ie.agg ie.zero.length (vs.toList.drop (n.toNat * ie.zero.length)))) w' := by
        intro w'
        have := run_part_at (P := P) he hue (w := w') (cs := vs) (off := n.toNat * pe.size) (fun hf => by
          have hs := fe.size1 hf
          have := fe.size
          rw [hs] at this hmul
          rw [this]; omega)
        rw [fe.size, fe.agg] at this
        have hn2 : n < (len : Int) := by omega
        simp [execOp, hop, Instr.index, hx, asIntOf, run_underlying hu, hvs, hb1, hn2, run_sizeOf he, fe.size, this]
      have hdr := hall.drop (n.toNat * ie.zero.length)
      cases hag : ie.agg with
      | true =>
        rw [hag] at hq hrun
        refine ⟨_, _, hq, ?_, fun w' _ => hrun w'⟩
        refine ⟨_, rfl, ?_⟩
        simpa [cutL] using hdr.take ie.zero.length
      | false =>
        rw [hag] at hq hrun
        cases hcd : cs.drop (n.toNat * ie.zero.length) with
        | nil => rw [hcd] at hq; exact hq.elim
        | cons c cs' =>
          rw [hcd] at hq hdr
          cases hud : vs.toList.drop (n.toNat * ie.zero.length) with
          | nil => rw [hud] at hdr; exact hdr.elim
          | cons u us =>
            rw [hud] at hdr hrun
            exact ⟨_, _, hq, RelV1.of hdr.1, fun w' _ => hrun w'⟩
  | build t ps =>
    simp only [aop, hop] at h
    obtain ⟨i, hi, hq⟩ := someK_iff h
    obtain ⟨vs, hq, hall⟩ := partsK_sound r hq
    obtain ⟨cs, hcs, hq⟩ := someK_iff hq
    obtain ⟨hag, hq⟩ := ifK_iff hq
    obtain ⟨pi, d, z, f⟩ := ti_facts hT hi
    obtain ⟨us, hb, hr⟩ := built_sound f hcs hall (by rw [f.agg]; exact hag)
    refine ⟨_, .agg us, hq, ⟨us, rfl, hr⟩, fun w' _ => ?_⟩
    have hpt : (ps.map fun (x : Nat × Operand) => (x.1, a.eval x.2)).toList = ps.toList.map fun p => (p.1, a.eval p.2) := by simp
    have := run_build (P := P) w' t (ps.map fun (x : Nat × Operand) => (x.1, a.eval x.2)) us (by rw [hpt]; exact hb)
    simp only [execOp, hop]
    rw [Sem.run_bind]
    have e : (ps.map fun (x : Nat × Operand) => match x with | (i, x) => (i, a.eval x)) = ps.map fun (x : Nat × Operand) => (x.1, a.eval x.2) := rfl
    rw [e, this]
    rfl
  | slice t x lo hi mx =>
    cases mx with
    | some _ => simp only [aop, hop] at h
    | none =>
      have hne : ∀ c, ¬ (lo = some (.const c) ∧ hi = none) := by
        rintro c ⟨rfl, rfl⟩
        simp [isAct, clsOf, hop] at hc
      have h : sliceK T st t x lo hi K := by
        rcases lo with _ | lo
        · simpa only [aop, hop] using h
        · cases lo with
          | const c =>
            rcases hi with _ | hi
            · exact absurd ⟨rfl, rfl⟩ (hne c)
            · simpa only [aop, hop] using h
          | _ => simpa only [aop, hop] using h
      unfold sliceK at h
      obtain ⟨l, hq, hr⟩ := evL_sound r h
      cases l with
      | sl e k l =>
        obtain ⟨⟨e', k'⟩, hek, hq⟩ := someK_iff hq
        obtain ⟨hsz, hq⟩ := ifK_iff hq
        have hsz := Nat.eq_of_beq_eq_true hsz
        obtain ⟨ie, z, hu, hie, hsi, _⟩ := skind_facts hT hek
        obtain ⟨A, hq, hA⟩ := optI_sound r hq
        obtain ⟨B, hq, hB⟩ := optI_sound r hq
        obtain ⟨⟨h0, h1, h2⟩, hq⟩ := hq
        have hrun : ∀ (ad : Option Addr) (cap : Nat), a.eval x = .slice ad l.length cap → l.length ≤ cap → ∀ w' : World,
            (execOp a.eval o).run P w' = .ok (.value (.slice (if cap = A.toNat then ad else ad.map (·.add (A.toNat * ie.size))) (B.toNat - A.toNat) (cap - A.toNat))) w' := by
          intro ad cap hv hc w'
          have hB0 : 0 ≤ B := Int.le_trans h0 h1
          obtain ⟨b, rfl⟩ := Int.eq_ofNat_of_zero_le hB0
          obtain ⟨d, rfl⟩ := Int.eq_ofNat_of_zero_le h0
          have hbb : (b : Int) ≤ (cap : Int) := by omega
          have hbn : b ≤ cap := by omega
          have hdb : d ≤ b := by omega
          have hdl : d ≤ l.length := by omega
          rcases hA with ⟨rfl, hA⟩ | ⟨y, k2, rfl, hy⟩ <;> rcases hB with ⟨rfl, hB⟩ | ⟨y2, k3, rfl, hy2⟩
          · have hz1 : b = l.length := by omega
            have hz2 : d = 0 := by omega
            subst hz1; subst hz2
            simp [execOp, hop, Instr.sliceAt, run_underlying hu, Instr.slice, hv, Instr.sliceBounds, run_sizeOf hie]
          · have hz2 : d = 0 := by omega
            subst hz2
            simp [execOp, hop, Instr.sliceAt, run_underlying hu, Instr.slice, hv, Instr.sliceBounds, Instr.sliceBound, hy2, asIntOf, hbn, run_sizeOf hie]
          · have hz1 : b = l.length := by omega
            subst hz1
            simp [execOp, hop, Instr.sliceAt, run_underlying hu, Instr.slice, hv, Instr.sliceBounds, Instr.sliceBound, hy, asIntOf, hdl, run_sizeOf hie]
          · simp [execOp, hop, Instr.sliceAt, run_underlying hu, Instr.slice, hv, Instr.sliceBounds, Instr.sliceBound, hy, hy2, asIntOf, hbn, hdb, run_sizeOf hie]
        have hab : ((l.take B.toNat).drop A.toNat).length = B.toNat - A.toNat := by
          rw [List.length_drop, List.length_take]; omega
        rcases hr with ⟨rfl, a0, hv⟩ | ⟨g, off, cap, cur, tg, fr, hv, hok, hg, hc, hf, hrow⟩
        · have hA0 : A.toNat = 0 := by simp at h2; omega
          have hB0 : B.toNat = 0 := by simp at h2; omega
          refine ⟨_, _, hq, ?_, fun w' _ => hrun a0 0 (by simpa using hv) (by simp) w'⟩
          rw [hA0, hB0]
          exact .inl ⟨by simp, by simp⟩
        · refine ⟨_, _, hq, ?_, fun w' _ => hrun _ cap hv hc w'⟩
          have hrow2 := (hrow.take B.toNat).drop A.toNat
          have hmul : A.toNat * k.sz + (B.toNat - A.toNat) * k.sz = B.toNat * k.sz := by rw [← Nat.add_mul]; congr 1; omega
          have hmul2 : B.toNat * k.sz ≤ l.length * k.sz := Nat.mul_le_mul_right _ (by omega)
          by_cases hcap : cap = A.toNat
          · rw [if_pos hcap]
            have hz : B.toNat - A.toNat = 0 := by omega
            refine .inr ⟨g, off, cap - A.toNat, cur, tg, fr, by rw [hab], hok, hg, by rw [hab]; omega, by rw [hab, hz]; omega, ?_⟩
            have hnil : (l.take B.toNat).drop A.toNat = [] := List.eq_nil_of_length_eq_zero (by rw [hab]; exact hz)
            rw [hnil]
            simp [RdRow]
          · rw [if_neg hcap]
            simp only [Option.map_some, Addr.add_lit]
            refine .inr ⟨g, off + A.toNat * ie.size, cap - A.toNat, cur, tg, fr, by rw [hab], hok, hg, by rw [hab]; omega, ?_, ?_⟩
            · rw [hab, hsi]
              simp only at hsz
              rw [hsz]
              omega
            · rw [hab, hsi]
              simp only at hsz
              rw [hsz]
              have e3 : List.drop (A.toNat * k.sz) (List.take (B.toNat * k.sz) (List.take (l.length * k.sz) (List.drop off cur.toList))) =
                  List.take ((B.toNat - A.toNat) * k.sz) (List.drop (off + A.toNat * k.sz) cur.toList) := by
                rw [List.take_take, List.drop_take, List.drop_drop, Nat.min_eq_left hmul2]
                congr 1
                omega
              rw [e3] at hrow2
              exact hrow2
      | _ => exact hq.elim
  | makeFunc fn first caps =>
    cases fn with
    | func fid =>
      simp only [aop, hop] at h
      obtain ⟨h0, hq⟩ := ifK_iff h
      have h0 : first = #[] := by
        have : first.size = 0 := by simpa using h0
        exact Array.size_eq_zero_iff.1 this
      obtain ⟨cs, hcs, hq⟩ := someK_iff hq
      refine ⟨_, .func (.func fid) #[] (caps.map a.eval), hq, ⟨caps.map a.eval, rfl, ?_⟩, fun w' _ => by simp [execOp, hop, Instr.makeFunc, h0]⟩
      rw [Array.toList_map]
      have hm := mapM_all2 hcs
      have : ∀ {cs : List Cap} {os : List Operand}, All2 (fun b a => (match a with
          | .tmp t => match st.slots[t]? with
            | some (.v (.one (.ptr id 0))) => some (Cap.id id)
            | some (.v (.one (.rp k x 0))) => some (Cap.imm k x)
            | _ => none
          | _ => none) = some b) cs os → All2 (RelCap w Ok β) cs (os.map a.eval) := by
        intro cs
        induction cs with
        | nil => intro os h; cases os with
          | nil => trivial
          | cons _ _ => exact h.elim
        | cons c cs ih =>
          intro os h
          cases os with
          | nil => exact h.elim
          | cons ob os =>
            refine ⟨?_, ih h.2⟩
            have h1 := h.1
            cases ob with
            | tmp t =>
              simp only at h1
              split at h1
              · rename_i id hs
                cases h1
                obtain ⟨b, hb, hr⟩ := r.s.get hs
                have hb' : a.tmps[t]? = some b := by simpa using hb
                have : a.eval (.tmp t) = b := by show a.tmps.getD t undef = b; simp [hb']
                rw [this]; exact hr
              · rename_i k y hs
                cases h1
                obtain ⟨b, hb, hr⟩ := r.s.get hs
                have hb' : a.tmps[t]? = some b := by simpa using hb
                have : a.eval (.tmp t) = b := by show a.tmps.getD t undef = b; simp [hb']
                rw [this]; exact hr
              · cases h1
            | _ => cases h1
      exact this hm
    | _ => simp only [aop, hop] at h
  | call c =>
    have hlen : c.callee = .builtin .len := by
      simp only [isAct, clsOf, hop] at hc
      cases hcc : c.callee with
      | builtin b => cases b <;> simp [hcc] at hc <;> rfl
      | _ => simp [hcc] at hc
    simp only [aop, hop, hlen] at h
    split at h
    · rename_i x t ts hxa hta
      obtain ⟨l, hq, hr⟩ := evL_sound r h
      obtain ⟨hty, hq⟩ := ifK_iff hq
      obtain ⟨n, hn, hq⟩ := someK_iff hq
      have harg : c.args = #[x] := by
        apply Array.ext'; rw [hxa]
      have hargt : c.argTypes[0]? = some t := by
        rw [← Array.getElem?_toList, hta]; rfl
      have key : ∀ (m : Nat), (m : Int) = n → ((∃ e, P.underlying t = some (.slice e) ∧ ∃ ad cp, a.eval x = .slice ad m cp) ∨ (P.underlying t = some .string ∧ ∃ s, a.eval x = .string s ∧ s.size = m)) →
          ∀ w' : World, (execOp a.eval o).run P w' = .ok (.value (.int .i64 n)) w' := by
        rintro m rfl (⟨e, hu, ad, cp, hv⟩ | ⟨hu, s, hv, rfl⟩) w'
        · simp [execOp, hop, resolve, hlen, harg, invoke, builtin, Builtin.len_, hargt, run_underlying hu, hv, goInt]
        · simp [execOp, hop, resolve, hlen, harg, invoke, builtin, Builtin.len_, hargt, run_underlying hu, hv, goInt]
      refine ⟨_, .int .i64 n, hq, rfl, fun w' _ => ?_⟩
      have slT : (skind T t).isSome = true → ∃ e, P.underlying t = some (.slice e) := by
        intro hs
        obtain ⟨⟨e', k'⟩, hek⟩ := Option.isSome_iff_exists.1 hs
        obtain ⟨ie, z, hu, _⟩ := skind_facts hT hek
        exact ⟨e', hu⟩
      cases l with
      | sl e k l =>
        obtain ⟨e', hu⟩ := slT hty
        simp only [lenOf, Option.some.injEq] at hn
        rcases hr with ⟨rfl, a0, hv⟩ | ⟨g, off, cap, cur, tg, fr, hv, _⟩
        · exact key 0 (by simpa using hn) (.inl ⟨e', hu, _, _, hv⟩) w'
        · exact key l.length hn (.inl ⟨e', hu, _, _, hv⟩) w'
      | nils =>
        obtain ⟨e', hu⟩ := slT hty
        simp only [lenOf, Option.some.injEq] at hn
        exact key 0 (by simpa using hn) (.inl ⟨e', hu, _, _, hr⟩) w'
      | own id =>
        obtain ⟨e', hu⟩ := slT hty
        simp only [lenOf] at hn
        split at hn
        · rename_i e k l ho
          simp only [Option.some.injEq] at hn
          obtain ⟨b, hb', hro⟩ := r.h.obj ho
          obtain ⟨h1, _⟩ := hr
          rw [hb'] at h1
          obtain rfl : b = a.eval x := by cases h1; rfl
          obtain ⟨ad, cp, hv⟩ := hro.row_val
          exact key l.length hn (.inl ⟨e', hu, _, _, hv⟩) w'
        · cases hn
      | str s =>
        simp only [lenOf, Option.some.injEq] at hn
        have hu : P.underlying t = some .string := by
          simp only [lenTy] at hty
          split at hty
          · rename_i i hi
            split at hty
            · rename_i hk
              obtain ⟨pi, d, z, f⟩ := ti_facts hT hi
              have := f.kd
              rw [hk] at this
              rw [f.und]
              cases d <;> simp [kdOk] at this
              rfl
            · cases hty
          · cases hty
        exact key s.size hn (.inr ⟨hu, s, hr, rfl⟩) w'
      | _ => simp [lenOf] at hn
    · exact h.elim
  | _ => first | (simp [isAct, clsOf, hop] at hc; done) | (simp [aop, hop] at h; done)
/-- A load out of a box: the same in every world that leaves blocks of its type as they are. -/
theorem load_box (hT : ttOk P T = true) {o : Oper} {t : TypeId} {p : Operand} (hop : o.op = .load t p) {st : St} {a : Act} (r : RelS w Ok β st a.tmps.toList) {K : V → St → Prop} (h : aop T E o st K) {bt : TypeId} (hb : boxTag st p = some bt) {v : Value}
    (hv : (execOp a.eval o).run P w = .ok (.value v) w) {w' : World} (hk : KeepT bt w w') : (execOp a.eval o).run P w' = .ok (.value v) w' := by
  simp only [aop, hop] at h
  cases p with
  | tmp t' =>
    unfold boxTag at hb
    simp only at hb
    split at hb
    · rename_i id off hsl
      split at hb
      · rename_i bt' cs hob
        cases hb
        unfold evL ev1 evK at h
        obtain ⟨x, hx, h2⟩ := getK_iff h
        rw [hsl] at hx
        cases hx
        have h2 : loadK T st t (.ptr id off) (fun v => K (.v v) st) := h2
        obtain ⟨b, hb, hr⟩ := r.s.get hsl
        have hev : a.eval (.tmp t') = b := by
          have hb' : a.tmps[t']? = some b := by simpa using hb
          show a.tmps.getD t' undef = b
          simp [hb']
        obtain ⟨x, u, _, _, hrun⟩ := loadK_sees (v := b) hT r.h h2 hr
        have h1 := hrun w (.inl (.refl w))
        have h3 := hrun w' (.inr ⟨id, off, _, _, rfl, hob, hk⟩)
        simp only [execOp, hop, hev] at hv ⊢
        rw [Sem.run_bind, h1] at hv
        rw [Sem.run_bind, h3]
        simp at hv ⊢
        exact hv
      · cases hb
    · cases hb
  | _ => simp [boxTag] at hb
end
end Go.AM
namespace Go.AM
open Go.RowKit
section
variable {P : Program} {T : TT} {E : Env}
/-- What must stay; the way from the start. -/
structure Fr (B : Nat → Prop) (w0 w : World) : Prop where
  os : w.os = w0.os
  tape : w.tape = w0.tape
  output : w.output = w0.output
  size : w0.heap.size ≤ w.heap.size
  block : ∀ g, B g → w.heap[g]? = w0.heap[g]?
/-- A state of the abstract machine and a world, in a call that began at w0. -/
structure Rel (B Ok0 : Nat → Prop) (w0 w : World) (Ok : Nat → Prop) (β : List Value) (st : St) (tm : List Value) : Prop where
  s : RelS w Ok β st tm
  fr : Fr B w0 w
  wr : ∀ v g, v ∈ β → blkOf v = some g → ¬ B g
  new : ∀ g, Ok g → Ok0 g ∨ ¬ B g
  old : ∀ g, Ok0 g → Ok g
variable {w w' w0 : World} {B Ok0 Ok : Nat → Prop} {β : List Value} {st : St} {tm : List Value}
theorem RelS.stay (r : RelS w Ok β st tm) (hb : ∀ g, g < w.heap.size → Ok g → w'.heap[g]? = w.heap[g]?) : Stay w w' Ok Ok :=
  ⟨fun _ h => h, fun g o hg ho => by rw [hb g (r.h.okLt g hg) hg]; exact ho⟩
theorem get_append_some {l m : List Value} {i : Nat} {v : Value} (h : l[i]? = some v) : (l ++ m)[i]? = some v := by
  rw [List.getElem?_append_left (List.getElem?_eq_some_iff.1 h).1]; exact h
theorem get_append_new {l : List Value} {v u : Value} {i : Nat} (h : (l ++ [v])[i]? = some u) : l[i]? = some u ∨ (i = l.length ∧ u = v) := by
  rw [List.getElem?_append] at h
  split at h
  · exact .inl h
  · rename_i hi
    right
    have : i - l.length = 0 := by
      cases hk : i - l.length with
      | zero => rfl
      | succ k => rw [hk] at h; simp at h
    rw [this] at h
    simp at h
    exact ⟨by omega, h.symm⟩
/-- A new object. -/
theorem RelS.push (r : RelS w Ok β st tm) (hsz : w.heap.size ≤ w'.heap.size) (hb : ∀ g, g < w.heap.size → w'.heap[g]? = w.heap[g]?) {v : Value} {ob : Ob}
    (hv : ∀ g, blkOf v = some g → w.heap.size ≤ g ∧ g < w'.heap.size) (ho : RelO w' Ok (β ++ [v]) ob v) : RelS w' Ok (β ++ [v]) ⟨st.slots, st.heap ++ [ob]⟩ tm := by
  have hs := r.stay (w' := w') fun g hg _ => hb g hg
  have hm : ∀ (i : Nat) u, β[i]? = some u → (β ++ [v])[i]? = some u := fun i u h => get_append_some h
  refine ⟨⟨?_, ?_, ?_, ?_, ?_⟩, r.s.mono fun _ _ => RelV.mono hs hm⟩
  · refine All2.append (r.h.objs.mono_mem' fun o u hu hou => ?_) ⟨ho, trivial⟩
    exact RelO.mono hs hm (fun g hg => hb g (r.h.lt u g hu hg)) hou
  · intro i j x y g hi hj hx hy
    rcases get_append_new hi with hi' | ⟨hi', rfl⟩ <;> rcases get_append_new hj with hj' | ⟨hj', rfl⟩
    · exact r.h.dist i j x y g hi' hj' hx hy
    · have h1 := r.h.lt x g (List.mem_of_getElem? hi') hx
      have h2 := (hv g hy).1
      omega
    · have h1 := r.h.lt y g (List.mem_of_getElem? hj') hy
      have h2 := (hv g hx).1
      omega
    · omega
  · intro u g hu hg
    rcases List.mem_append.1 hu with hu | hu
    · exact Nat.lt_of_lt_of_le (r.h.lt u g hu hg) hsz
    · simp at hu; subst hu; exact (hv g hg).2
  · exact fun g hg => Nat.lt_of_lt_of_le (r.h.okLt g hg) hsz
  · intro u g hu hg
    rcases List.mem_append.1 hu with hu | hu
    · exact r.h.okNot u g hu hg
    · simp at hu; subst hu
      intro hok
      have := r.h.okLt g hok
      have := (hv g hg).1
      omega
/-- An object turns. -/
theorem RelS.turn (r : RelS w Ok β st tm) {id : Nat} {v v' : Value} (hid : β[id]? = some v) (hsz : w.heap.size ≤ w'.heap.size) (hb : ∀ g, g < w.heap.size → blkOf v ≠ some g → w'.heap[g]? = w.heap[g]?)
    (hv : ∀ g, blkOf v' = some g → (blkOf v = some g ∨ w.heap.size ≤ g) ∧ g < w'.heap.size) {f : Lf → Lf} (hu : f .undef = .undef) (hf : ∀ l u, RelL w Ok β l u → RelL w' Ok (β.set id v') (f l) u) {ob : Ob}
    (ho : RelO w' Ok (β.set id v') ob v') : RelS w' Ok (β.set id v') ⟨st.slots.map (mapV f), (st.heap.map (mapOb f)).set id ob⟩ tm := by
  have hmem : v ∈ β := List.mem_of_getElem? hid
  have hs := r.stay (w' := w') fun g hg hok => hb g hg fun h => r.h.okNot v g hmem h hok
  have hlt : id < β.length := (List.getElem?_eq_some_iff.1 hid).1
  refine ⟨⟨?_, ?_, ?_, ?_, ?_⟩, All2.map _ (r.s.mono fun _ _ => RelV.mapL f hu hf)⟩
  · -- place by place
    have hlen := r.h.objs.length
    refine All2.of_get (by simp [hlen]) fun i o u hi hui => ?_
    by_cases hii : i = id
    · subst hii
      have hl2 : i < st.heap.length := by omega
      rw [List.getElem?_set_self (by simpa using hl2)] at hi
      rw [List.getElem?_set_self hlt] at hui
      cases hi; cases hui
      exact ho
    · rw [get_set_ne hii] at hi hui
      rw [List.getElem?_map] at hi
      cases ho' : st.heap[i]? with
      | none => rw [ho'] at hi; cases hi
      | some o' =>
        rw [ho'] at hi
        cases hi
        obtain ⟨u', hu', hou⟩ := r.h.obj ho'
        rw [hui] at hu'
        cases hu'
        refine RelO.mapL f hu hf hs (fun g hg => hb g (r.h.lt u g (List.mem_of_getElem? hui) hg) fun h => ?_) hou
        exact hii (r.h.dist i id u v g hui hid hg h)
  · intro i j x y g hi hj hx hy
    have aux : ∀ i j x y, i = id → j ≠ id → (β.set id v')[i]? = some x → (β.set id v')[j]? = some y → blkOf x = some g → blkOf y = some g → False := by
      intro i j x y hii hjj hi hj hx hy
      subst hii
      rw [List.getElem?_set_self hlt] at hi
      cases hi
      rw [get_set_ne hjj] at hj
      rcases (hv g hx).1 with h | h
      · exact hjj (r.h.dist j i y v g hj hid hy h)
      · have := r.h.lt y g (List.mem_of_getElem? hj) hy
        omega
    by_cases hii : i = id <;> by_cases hjj : j = id
    · omega
    · exact (aux i j x y hii hjj hi hj hx hy).elim
    · exact (aux j i y x hjj hii hj hi hy hx).elim
    · rw [get_set_ne hii] at hi
      rw [get_set_ne hjj] at hj
      exact r.h.dist i j x y g hi hj hx hy
  · intro u g hu' hg
    rcases mem_set_of hu' with rfl | ⟨j, _, hj⟩
    · exact (hv g hg).2
    · exact Nat.lt_of_lt_of_le (r.h.lt u g (List.mem_of_getElem? hj) hg) hsz
  · exact fun g hg => Nat.lt_of_lt_of_le (r.h.okLt g hg) hsz
  · intro u g hu' hg
    rcases mem_set_of hu' with rfl | ⟨j, _, hj⟩
    · intro hok
      rcases (hv g hg).1 with h | h
      · exact r.h.okNot v g hmem h hok
      · have := r.h.okLt g hok
        omega
    · exact r.h.okNot u g (List.mem_of_getElem? hj) hg
theorem mapV_id (x : V) : mapV (fun l => l) x = x := by
  have h1 : ∀ y : V1, mapV1 (fun l => l) y = y := fun y => by cases y <;> simp [mapV1]
  cases x with
  | v y => simp [mapV, h1]
  | tup xs => simp only [mapV]; congr 1; rw [List.map_congr_left (g := fun y => y) (fun y _ => h1 y)]; simp
theorem mapOb_id (o : Ob) : mapOb (fun l => l) o = o := by
  have : ∀ cs : List V, cs.map (mapV fun l => l) = cs := fun cs => by rw [List.map_congr_left (g := fun x => x) (fun x _ => mapV_id x)]; simp
  cases o <;> simp [mapOb, this]
/-- An object turns in place: its value stays. -/
theorem RelS.same (r : RelS w Ok β st tm) {id : Nat} {v : Value} (hid : β[id]? = some v) (hsz : w.heap.size ≤ w'.heap.size) (hb : ∀ g, g < w.heap.size → blkOf v ≠ some g → w'.heap[g]? = w.heap[g]?)
    {ob : Ob} (ho : RelO w' Ok β ob v) : RelS w' Ok β ⟨st.slots, st.heap.set id ob⟩ tm := by
  have hset : β.set id v = β := by
    apply List.ext_getElem?
    intro i
    by_cases h : i = id
    · subst h; rw [List.getElem?_set_self (List.getElem?_eq_some_iff.1 hid).1, hid]
    · rw [get_set_ne h]
  have hmem : v ∈ β := List.mem_of_getElem? hid
  have hs := r.stay (w' := w') fun g hg hok => hb g hg fun h => r.h.okNot v g hmem h hok
  have := r.turn (w' := w') (v' := v) (f := fun l => l) hid hsz hb (fun g hg => ⟨.inl hg, Nat.lt_of_lt_of_le (r.h.lt v g hmem hg) hsz⟩) rfl (by rw [hset]; exact fun l u h => RelL.mono hs (fun _ _ h => h) h) (by rw [hset]; exact ho)
  rw [hset] at this
  have e1 : st.slots.map (mapV fun l => l) = st.slots := by rw [List.map_congr_left (g := fun x => x) (fun x _ => mapV_id x)]; simp
  have e2 : st.heap.map (mapOb fun l => l) = st.heap := by rw [List.map_congr_left (g := fun x => x) (fun x _ => mapOb_id x)]; simp
  rw [e1, e2] at this
  exact this
/-- References to a row go when it turns. -/
theorem killL_rel {id : Nat} {v v' : Value} (hid : β[id]? = some v) (hsl : ∃ a n c, v = .slice a n c) (hs : Stay w w' Ok Ok) : ∀ l u, RelL w Ok β l u → RelL w' Ok (β.set id v') (killL id l) u := by
  obtain ⟨a0, n0, c0, hsl⟩ := hsl
  have hne : ∀ i : Nat, i ≠ id → ∀ z : Value, β[i]? = some z → (β.set id v')[i]? = some z := fun i hi z hz => by rw [get_set_ne hi]; exact hz
  have hptr : ∀ n off u, RelPtr β n off u → RelPtr (β.set id v') n off u := fun n off u ⟨g, h1, h2⟩ => by
    refine ⟨g, hne n ?_ _ h1, h2⟩
    rintro rfl
    rw [hid] at h1; cases h1
    cases hsl
  intro x u hx
  cases x with
  | own i =>
    simp only [killL]
    split
    · exact hx.def1 (by simp)
    · rename_i hi
      exact ⟨hne i hi _ hx.1, hx.2⟩
  | ept i n sz off =>
    simp only [killL]
    split
    · exact hx.def1 (by simp)
    · rename_i hi
      obtain ⟨g, o, m, c, h1, h2⟩ := hx
      exact ⟨g, o, m, c, hne i hi _ h1, h2⟩
  | ptr i off => exact hptr _ _ _ hx
  | mp i =>
    obtain ⟨h1, g, h2⟩ := hx
    refine ⟨hne i ?_ _ h1, g, h2⟩
    rintro rfl
    rw [hid] at h1; cases h1
    rw [hsl] at h2; cases h2
  | clo f caps =>
    obtain ⟨vs, h1, h2⟩ := hx
    refine ⟨vs, h1, h2.mono fun c u hc => ?_⟩
    cases c with
    | id n => exact hptr _ _ _ hc
    | imm k x => exact RelRp.mono hs hc
  | sl e k l => exact RdS.mono (e := e) hs (fun _ _ => RdC.mono hs) hx
  | rp k x off => exact RelRp.mono hs hx
  | _ => exact hx

/-! ### with the way from the start -/
theorem Rel.push (r : Rel B Ok0 w0 w Ok β st tm) (hB : ∀ g, B g → g < w0.heap.size) (hsz : w.heap.size ≤ w'.heap.size) (hos : w'.os = w.os) (htp : w'.tape = w.tape) (hout : w'.output = w.output)
    (hb : ∀ g, g < w.heap.size → w'.heap[g]? = w.heap[g]?) {v : Value} {ob : Ob}
    (hv : ∀ g, blkOf v = some g → w.heap.size ≤ g ∧ g < w'.heap.size) (ho : RelO w' Ok (β ++ [v]) ob v) : Rel B Ok0 w0 w' Ok (β ++ [v]) ⟨st.slots, st.heap ++ [ob]⟩ tm := by
  refine ⟨r.s.push hsz hb hv ho, ⟨hos.trans r.fr.os, htp.trans r.fr.tape, hout.trans r.fr.output, Nat.le_trans r.fr.size hsz, fun g hg => ?_⟩, ?_, r.new, r.old⟩
  · rw [hb g (Nat.lt_of_lt_of_le (hB g hg) r.fr.size)]
    exact r.fr.block g hg
  · intro u g hu hg hBg
    rcases List.mem_append.1 hu with hu | hu
    · exact r.wr u g hu hg hBg
    · simp at hu; subst hu
      have h1 := (hv g hg).1
      have h2 := hB g hBg
      have h3 := r.fr.size
      omega
theorem Rel.turn (r : Rel B Ok0 w0 w Ok β st tm) (hB : ∀ g, B g → g < w0.heap.size) {id : Nat} {v v' : Value} (hid : β[id]? = some v) (hsz : w.heap.size ≤ w'.heap.size) (hos : w'.os = w.os) (htp : w'.tape = w.tape) (hout : w'.output = w.output)
    (hb : ∀ g, g < w.heap.size → blkOf v ≠ some g → w'.heap[g]? = w.heap[g]?)
    (hv : ∀ g, blkOf v' = some g → (blkOf v = some g ∨ w.heap.size ≤ g) ∧ g < w'.heap.size) {st' : St} (hs : RelS w' Ok (β.set id v') st' tm) : Rel B Ok0 w0 w' Ok (β.set id v') st' tm := by
  have hmem : v ∈ β := List.mem_of_getElem? hid
  refine ⟨hs, ⟨hos.trans r.fr.os, htp.trans r.fr.tape, hout.trans r.fr.output, Nat.le_trans r.fr.size hsz, fun g hg => ?_⟩, ?_, r.new, r.old⟩
  · rw [hb g (Nat.lt_of_lt_of_le (hB g hg) r.fr.size) fun h => r.wr v g hmem h hg]
    exact r.fr.block g hg
  · intro u g hu hg hBg
    rcases mem_set_of hu with rfl | ⟨j, _, hj⟩
    · rcases (hv g hg).1 with h | h
      · exact r.wr v g hmem h hBg
      · have h2 := hB g hBg
        have h3 := r.fr.size
        omega
    · exact r.wr u g (List.mem_of_getElem? hj) hg hBg
theorem Rel.same (r : Rel B Ok0 w0 w Ok β st tm) (hB : ∀ g, B g → g < w0.heap.size) {id : Nat} {v : Value} (hid : β[id]? = some v) (hsz : w.heap.size ≤ w'.heap.size) (hos : w'.os = w.os) (htp : w'.tape = w.tape) (hout : w'.output = w.output)
    (hb : ∀ g, g < w.heap.size → blkOf v ≠ some g → w'.heap[g]? = w.heap[g]?) {st' : St} (hs : RelS w' Ok β st' tm) : Rel B Ok0 w0 w' Ok β st' tm := by
  have hmem : v ∈ β := List.mem_of_getElem? hid
  refine ⟨hs, ⟨hos.trans r.fr.os, htp.trans r.fr.tape, hout.trans r.fr.output, Nat.le_trans r.fr.size hsz, fun g hg => ?_⟩, r.wr, r.new, r.old⟩
  rw [hb g (Nat.lt_of_lt_of_le (hB g hg) r.fr.size) fun h => r.wr v g hmem h hg]
  exact r.fr.block g hg
/-- Rows are sealed, if the flag says so. -/
theorem Rel.sink (r : Rel B Ok0 w0 w Ok β st tm) (b : Bool) {ls : List Lf} {cs : List Value} (hls : All2 (RelL w Ok β) ls cs) :
    ∃ β' Ok', Rel B Ok0 w0 w Ok' β' (sinkSt b (ownIds ls) st) tm ∧ (∀ g, Ok g → Ok' g) ∧ (b = false → ∀ g, idBlk β (ownIds ls) g → Ok' g) ∧
      (∀ i : Nat, (b = true ∨ i ∉ ownIds ls) → β'[i]? = β[i]? ∧ ∀ e k l, st.heap[i]? = some (Ob.row e k l) → (sinkSt b (ownIds ls) st).heap[i]? = some (Ob.row e k l)) ∧
      (b = true → ∀ g, Ok' g → Ok g) ∧ β'.length = β.length := by
  cases b with
  | true => exact ⟨β, Ok, r, fun _ h => h, (by simp), fun _ _ => ⟨rfl, fun _ _ _ h => h⟩, fun _ _ h => h, rfl⟩
  | false =>
    obtain ⟨β', Ok', h1, h2, h3, h4, h5, h6, h7⟩ := sealAll_sound (ids := ownIds ls) r.s
    refine ⟨β', Ok', ⟨h1, r.fr, ?_, fun g hg => ?_, fun g hg => h2 g (r.old g hg)⟩, h2, fun _ g hg => ?_, fun i hi => h7 i (hi.resolve_left (by simp)), by simp, h6⟩
    · intro u g hu hg
      obtain ⟨i, hi⟩ := List.getElem?_of_mem hu
      exact r.wr u g (List.mem_of_getElem? (h5 i u g hi hg)) hg
    · rcases h3 g hg with h | ⟨i, _, v, hv, hgv⟩
      · exact r.new g h
      · exact .inr (r.wr v g (List.mem_of_getElem? hv) hgv)
    · obtain ⟨i, hi, ⟨e, k, l, ho⟩, hb⟩ := own_rows r.s.h hls hg
      exact h4 i hi e k l ho g hb
end
end Go.AM
namespace Go.AM
open Go.RowKit
section
variable {P : Program} {T : TT} {E : Env}
theorem blkOf_slice {v : Value} (h : ∃ a n c, v = .slice a n c) : blkOf v = v.ownBlock := by
  obtain ⟨a, n, c, rfl⟩ := h
  cases a <;> rfl
theorem RdRow.of_get {α : Type} {R : α → List Value → Prop} {sz : Nat} : ∀ {l : List α} {cs : List Value}, cs.length = l.length * sz → (∀ i x, l[i]? = some x → R x ((cs.drop (i * sz)).take sz)) → RdRow R sz l cs
  | [], cs, hl, _ => List.eq_nil_of_length_eq_zero (by simpa using hl)
  | x :: l, cs, hl, h => by
    have hl' : cs.length = l.length * sz + sz := by rw [hl, List.length_cons, Nat.add_mul, Nat.one_mul]
    refine ⟨cs.take sz, cs.drop sz, by simp, by rw [List.length_take]; omega, by simpa using h 0 x rfl, RdRow.of_get (by rw [List.length_drop]; omega) fun i y hy => ?_⟩
    have := h (i + 1) y (by simpa using hy)
    rw [List.drop_drop]
    rwa [Nat.add_mul, Nat.one_mul, Nat.add_comm] at this
theorem made_row {α : Type} {R : α → List Value → Prop} {sz : Nat} {x : α} {z : Array Value} (hz : z.size = sz) (hsz : 0 < sz) (hx : R x z.toList) (n : Nat) : RdRow R sz (List.replicate n x) (madeCells z (n * sz)).toList := by
  refine RdRow.of_get (by simp [madeCells]) fun i y hy => ?_
  obtain ⟨hi, hy⟩ := List.getElem?_eq_some_iff.1 hy
  have hi : i < n := by simpa using hi
  have hy : x = y := by simpa using hy
  subst hy
  have : ((madeCells z (n * sz)).toList.drop (i * sz)).take sz = z.toList := by
    apply List.ext_getElem?
    intro j
    rw [List.getElem?_take]
    split
    · rename_i hj
      have hlt : i * sz + j < n * sz := by
        have : (i + 1) * sz ≤ n * sz := Nat.mul_le_mul_right _ hi
        rw [Nat.add_mul, Nat.one_mul] at this
        omega
      rw [List.getElem?_drop]
      simp only [madeCells, Array.toList_map, Array.toList_range, List.getElem?_map, List.getElem?_range hlt, Option.map_some]
      have : (i * sz + j) % sz = j := by rw [Nat.mul_comm, Nat.mul_add_mod, Nat.mod_eq_of_lt hj]
      have hjz : j < z.size := by omega
      rw [hz, this]
      simp [hjz]
    · rename_i hj
      rw [List.getElem?_eq_none (by simp; omega)]
  rw [this]; exact hx
theorem append_own (w : World) (t ty e : TypeId) (i : TypeInfo) (z : Value) (size : Nat) (ht : P.underlying t = some (.slice e)) (hi : P.info? e = some i) (hz : i.zero = some z)
    (hsize : i.size = size) (hzs : z.cells.size = size) (v : Value) (n : Nat) (xs : List Value) (hown : OwnsAt w e size v n xs)
    (a : Addr) (m c : Nat) (news : List Value) (hl : news.length = m * size) (hnews : ∀ j u, news[j]? = some u → w.cell? (a.add j) = some u) (h1 : ∀ u ∈ news, u.oneCell' = true)
    (h63 : n + m ≤ maxLen) (hbytes : (n + m) * i.bytes ≤ 140737488355328) :
    ∃ v' w', (Builtin.append_ #[t, t] ty #[v, .slice (some a) m c]).run P w = .ok v' w' ∧ OwnsAt w' e size v' (n + m) (xs ++ news) ∧ w.grownBy w' v.ownBlock ∧
      (∀ g, v'.ownBlock = some g → v.ownBlock = some g ∨ w.heap.size ≤ g) ∧ ∃ a n c, v' = .slice a n c := by
  subst hsize
  have hsmall : n + m ≤ 9223372036854775807 := by simp only [maxLen] at h63; omega
  have hlen : (xs ++ news).length = (n + m) * i.size := by rw [List.length_append, hown.1, hl, Nat.add_mul]
  have grown : ∀ (old : Nat) (row : Option Nat),
      (w.drew.alloc (.cells (xs.toArray ++ news.toArray ++ Builtin.zeroCells z.cells (grownCap w (n + m) old e - (n + m))) e)).ownsRow 0 e i.size
        (.slice (some ⟨w.heap.size, 0, none⟩) (n + m) (grownCap w (n + m) old e)) (n + m) (xs ++ news) ∧
      w.grownBy (w.drew.alloc (.cells (xs.toArray ++ news.toArray ++ Builtin.zeroCells z.cells (grownCap w (n + m) old e - (n + m))) e)) row := by
    intro old row
    have hge := grownCap_ge w (n + m) old e
    refine ⟨⟨hlen, .inr ⟨w.heap.size, _, _, rfl, Nat.zero_le _, heap_alloc_new w.drew _, hge, grownCap_le_maxLen w (n + m) old e h63, ?_, ?_⟩⟩, ⟨rfl, rfl, rfl, by simp, fun k hk _ => heap_alloc_old w.drew _ k hk⟩⟩
    · simp only [Array.size_append, List.size_toArray, size_zeroCells, hzs, hown.1, hl, ← Nat.add_mul]
      congr 1
      omega
    · simp only [Array.toList_append, List.append_assoc]
      rw [← List.append_assoc, ← hlen]
      exact List.take_left
  rcases hown.2 with ⟨rfl, rfl⟩ | ⟨g, o, cap, cur, rfl, hg, hnc, hcm, hcs, htake⟩
  · have hx : xs = [] := List.eq_nil_of_length_eq_zero (by simpa using hown.1)
    subst hx
    by_cases hm : m = 0
    · subst hm
      have hn : news = [] := List.eq_nil_of_length_eq_zero (by simpa using hl)
      subst hn
      refine ⟨.slice none 0 0, w, ?_, OwnsAt.nil w e i.size, ⟨rfl, rfl, rfl, Nat.le_refl _, fun _ _ _ => rfl⟩, fun g h => by simp [Value.ownBlock] at h, _, _, _, rfl⟩
      simp [Builtin.append_, run_underlying ht, sizeOf, typeInfo, hi, Builtin.lenOf, Builtin.firstCells, loadCells, loadCellsFrom]
    · have hr := run_append_nil (P := P) w t ty e i z ht hi hz a m c news hl hnews (by omega) (by omega) (by have hb := hbytes; simp only [Nat.zero_add] at hb; omega)
      have hgr := grown 0 (Value.ownBlock (.slice none 0 0))
      simp only [Nat.zero_add, List.nil_append, Array.empty_append] at hgr ⊢
      exact ⟨_, _, hr, .of hgr.1, hgr.2, fun g h => by simp [Value.ownBlock] at h; right; omega, _, _, _, rfl⟩
  · by_cases hroom : n + m ≤ cap
    · have hfit : o + n * i.size + news.length ≤ cur.size := by
        have : (n + m) * i.size ≤ cap * i.size := Nat.mul_le_mul_right _ hroom
        rw [Nat.add_mul] at this
        rw [hl]; omega
      have hf := run_firstCells_some (P := P) w i.size m a m c news hl hnews
      have hst := run_storeCells_at P g (o + n * i.size) e news 0 cur w hg (by simpa using hfit) h1
      simp only [Nat.add_zero] at hst
      have hr : (Builtin.append_ #[t, t] ty #[.slice (some ⟨g, o, none⟩) n cap, .slice (some a) m c]).run P w = .ok (.slice (some ⟨g, o, none⟩) (n + m) cap) (w.setRow g (cur.toList.take (o + n * i.size) ++ news ++ cur.toList.drop (o + n * i.size + news.length)).toArray) := by
        simp [Builtin.append_, run_underlying ht, sizeOf, typeInfo, hi, Builtin.lenOf, hroom, hf, Addr.add_lit, hst]
      refine ⟨_, _, hr, ⟨hlen, .inr ⟨g, o, cap, _, rfl, setRow_heap w g cur _ e _ hg, hroom, hcm, ?_, ?_⟩⟩, ⟨rfl, rfl, rfl, by simp, fun k _ hk => setRow_other w g k _ (fun e => hk (by simp [Value.ownBlock, e]))⟩, fun g' h => .inl h, _, _, _, rfl⟩
      · simp only [List.size_toArray, List.length_append, List.length_take, List.length_drop, Array.length_toList]
        omega
      · have e1 : (cur.toList.take (o + n * i.size) ++ news ++ cur.toList.drop (o + n * i.size + news.length)).drop o = xs ++ news ++ cur.toList.drop (o + n * i.size + news.length) := by
          rw [List.append_assoc, List.drop_append_of_le_length (by rw [List.length_take]; simp; omega), List.drop_take, Nat.add_sub_cancel_left, htake, List.append_assoc]
        rw [List.toList_toArray, e1, ← hlen]
        exact List.take_left
    · have holds : ∀ j u, xs[j]? = some u → w.cell? ((⟨g, o, none⟩ : Addr).add j) = some u := fun j u hj => by
        rw [Addr.add_lit, cell_of_row w g _ cur e _ hg]
        rw [← htake, List.getElem?_take] at hj
        split at hj
        · simpa using hj
        · cases hj
      have hr := run_append_grow (P := P) w t ty e i z ht hi hz ⟨g, o, none⟩ n cap xs hown.1 holds a m c news hl hnews (by omega) (by omega) (growslice_fits (by omega) hbytes)
      have hgr := grown cap (Value.ownBlock (.slice (some ⟨g, o, none⟩) n cap))
      exact ⟨_, _, hr, .of hgr.1, hgr.2, fun g' h => by simp [Value.ownBlock] at h; right; omega, _, _, _, rfl⟩
theorem putL_drop {l vs : List Value} {o p : Nat} (h : o + p ≤ l.length) : (putL l (o + p) vs).drop o = putL (l.drop o) p vs := by
  unfold putL
  rw [List.append_assoc, List.drop_append_of_le_length (by rw [List.length_take]; omega), List.drop_take, Nat.add_sub_cancel_left, List.drop_drop, List.append_assoc, Nat.add_assoc]
theorem putL_take {l vs : List Value} {p n : Nat} (h : p + vs.length ≤ n) (hl : n ≤ l.length) : (putL l p vs).take n = putL (l.take n) p vs := by
  unfold putL
  have e1 : (List.take p l ++ vs).length = p + vs.length := by rw [List.length_append, List.length_take]; omega
  rw [List.take_append, List.take_of_length_le (by omega), e1, List.take_take, Nat.min_eq_left (by omega), List.drop_take]
theorem putL_mid {l vs : List Value} {p off sz : Nat} (h : off + vs.length ≤ sz) (hl : p + sz ≤ l.length) : putL l (p + off) vs = putL l p (putL ((l.drop p).take sz) off vs) := by
  unfold putL
  have e1 : (List.take off (List.take sz (List.drop p l)) ++ vs ++ List.drop (off + vs.length) (List.take sz (List.drop p l))).length = sz := by
    simp only [List.length_append, List.length_take, List.length_drop]; omega
  rw [e1]
  have e2 : List.drop (off + vs.length) (List.take sz (List.drop p l)) ++ List.drop (p + sz) l = List.drop (p + off + vs.length) l := by
    rw [List.drop_take, List.drop_drop]
    have : List.drop (p + sz) l = List.drop (sz - (off + vs.length)) (List.drop (p + (off + vs.length)) l) := by rw [List.drop_drop]; congr 1; omega
    rw [this, List.take_append_drop]
    congr 1
    omega
  have e3 : List.take (p + off) l = List.take p l ++ List.take off (List.take sz (List.drop p l)) := by
    rw [List.take_take, Nat.min_eq_left (by omega), List.take_add]
  rw [e3, ← e2]
  simp only [List.append_assoc]
end

/-- What an operation that is no call comes to. -/
def After (P : Program) (o : Oper) (a : Act) (B Ok0 : Nat → Prop) (w0 w : World) (K : V → St → Prop) : Prop :=
  ∃ v w', ((execOp a.eval o).run P w = .ok (.value v) w' ∨ ((execOp a.eval o).run P w = .ok .skip w' ∧ v = undef)) ∧ (tame o = true → Grow w w') ∧
    ∃ av st' Ok' β', K av st' ∧ RelV w' Ok' β' av v ∧ Rel B Ok0 w0 w' Ok' β' st' a.tmps.toList
section
variable {P : Program} {T : TT} {E : Env} {w w0 : World} {B Ok0 Ok : Nat → Prop} {β : List Value}
theorem Rel.len {st : St} {tm : List Value} (r : Rel B Ok0 w0 w Ok β st tm) : st.heap.length = β.length := r.s.h.objs.length
/-- A new block. -/
theorem Rel.alloc {st : St} {tm : List Value} (r : Rel B Ok0 w0 w Ok β st tm) (hB : ∀ g, B g → g < w0.heap.size) (o : Obj) {v : Value} {ob : Ob} (hv : blkOf v = some w.heap.size)
    (ho : RelO (w.alloc o) Ok (β ++ [v]) ob v) : Rel B Ok0 w0 (w.alloc o) Ok (β ++ [v]) ⟨st.slots, st.heap ++ [ob]⟩ tm :=
  r.push (w' := w.alloc o) hB (by simp) rfl rfl rfl (fun g hg => heap_alloc_old w o g hg) (fun g hg => by rw [hv] at hg; cases hg; simp) ho
theorem aop_assign (hT : ttOk P T = true) (hB : ∀ g, B g → g < w0.heap.size) {o : Oper} {x : Operand} (hop : o.op = .assign x) {st : St} {a : Act} (r : Rel B Ok0 w0 w Ok β st a.tmps.toList) {K : V → St → Prop} (h : aop T E o st K) :
    After P o a B Ok0 w0 w K := by
  simp only [aop, hop] at h
  obtain ⟨v, hq, hr⟩ := evK_sound r.s h
  have hrun : (execOp a.eval o).run P w = .ok (.value (a.eval x)) w := by simp [execOp, hop]
  have same : K v st → After P o a B Ok0 w0 w K := fun hk => ⟨_, w, .inl hrun, fun _ => .refl w, v, st, Ok, β, hk, hr, r⟩
  split at hq
  · split at hq
    · rename_i e k hek
      rw [newK_eq] at hq
      have hv : a.eval x = .slice none 0 0 := hr
      refine ⟨_, w, .inl hrun, fun _ => .refl w, _, _, Ok, β ++ [.slice none 0 0], hq, ?_, r.push hB (Nat.le_refl _) rfl rfl rfl (fun _ _ => rfl) (fun g hg => by simp [blkOf] at hg) ⟨[], OwnsAt.nil w e k.sz, rfl⟩⟩
      rw [hv, r.len]
      exact ⟨by simp, _, _, _, rfl⟩
    · exact same hq
  · exact same hq
theorem aop_alloc (hT : ttOk P T = true) (hB : ∀ g, B g → g < w0.heap.size) {o : Oper} {t : TypeId} (hop : o.op = .alloc t) {st : St} {a : Act} (r : Rel B Ok0 w0 w Ok β st a.tmps.toList) {K : V → St → Prop} (h : aop T E o st K) :
    After P o a B Ok0 w0 w K := by
  simp only [aop, hop] at h
  obtain ⟨i, hi, hq⟩ := someK_iff h
  rw [newK_eq] at hq
  obtain ⟨pi, d, z, f⟩ := ti_facts hT hi
  refine ⟨.pointer (some ⟨w.heap.size, 0, none⟩), w.alloc (.cells z.cells t), .inl ?_, fun _ => .alloc _ _, _, _, Ok, β ++ [.pointer (some ⟨w.heap.size, 0, none⟩)], hq, ?_, r.alloc hB _ rfl ?_⟩
  · simp [execOp, hop, Instr.alloc, zeroValue, run_info f.info, f.zero, newVar, newRow]
  · exact ⟨w.heap.size, by rw [r.len]; simp, rfl⟩
  · exact ⟨w.heap.size, z.cells, rfl, heap_alloc_new w _, f.zeroR _ _ _⟩
theorem aop_box (hT : ttOk P T = true) (hB : ∀ g, B g → g < w0.heap.size) {o : Oper} {t : TypeId} {x : Operand} (hop : o.op = .box t x) {st : St} {a : Act} (r : Rel B Ok0 w0 w Ok β st a.tmps.toList) {K : V → St → Prop} (h : aop T E o st K) :
    After P o a B Ok0 w0 w K := by
  simp only [aop, hop] at h
  obtain ⟨v, hq, hr⟩ := ev1_sound r.s h
  obtain ⟨hd, hq⟩ := ifK_iff hq
  rw [newK_eq] at hq
  obtain ⟨hc, _⟩ := hr.cells hd
  refine ⟨.pointer (some ⟨w.heap.size, 0, none⟩), w.alloc (.cells (a.eval x).cells t), .inl ?_, fun _ => .alloc _ _, _, _, Ok, β ++ [.pointer (some ⟨w.heap.size, 0, none⟩)], hq, ?_, r.alloc hB _ rfl ?_⟩
  · simp [execOp, hop, Instr.box, newVar, newRow]
  · exact ⟨w.heap.size, by rw [r.len]; simp, rfl⟩
  · refine ⟨w.heap.size, _, rfl, heap_alloc_new w _, hc.mono fun l u => RelL.mono (r.s.stay fun g hg _ => heap_alloc_old w _ g hg) (fun i u h => get_append_some h)⟩
theorem aop_makeSlice (hT : ttOk P T = true) (hB : ∀ g, B g → g < w0.heap.size) {o : Oper} {t : TypeId} {x y : Operand} (hop : o.op = .makeSlice t x y) {st : St} {a : Act} (r : Rel B Ok0 w0 w Ok β st a.tmps.toList) {K : V → St → Prop}
    (h : aop T E o st K) : After P o a B Ok0 w0 w K := by
  simp only [aop, hop] at h
  obtain ⟨⟨e, k⟩, hek, hq⟩ := someK_iff h
  obtain ⟨k1, n, hq, hn⟩ := evI_sound r.s hq
  obtain ⟨k2, c, hq, hc⟩ := evI_sound r.s hq
  obtain ⟨⟨h0, hnc, hcm⟩, hroom, hq⟩ := hq
  rw [newK_eq] at hq
  obtain ⟨ie, z, hu, hie, hsi, hby, hz, hzs, hzr⟩ := skind_facts hT hek
  obtain ⟨te, hte, hroom⟩ := someK_iff hroom
  obtain ⟨pe, de, ze, fe⟩ := ti_facts hT hte
  have hpe : pe = ie := by have := fe.info; simp only at this; rw [hie] at this; cases this; rfl
  subst hpe
  rw [← fe.bytes] at hroom
  have hb : (pe.bytes : Int) * c ≤ 281474976710656 := by
    have : ((c.toNat * pe.bytes : Nat) : Int) ≤ 140737488355328 := by omega
    rw [Int.natCast_mul, Int.toNat_of_nonneg (by omega), Int.mul_comm] at this
    omega
  have hrun := run_make (P := P) w t e pe z hu hie hz k1 k2 n c h0 hnc hb (by omega)
  refine ⟨.slice (some ⟨w.heap.size, 0, none⟩) n.toNat c.toNat, w.alloc (.cells (madeCells z.cells (c.toNat * pe.size)) e), .inl (by simp [execOp, hop, hn, hc, hrun]), fun _ => .alloc _ _, _, _, Ok, β ++ [.slice (some ⟨w.heap.size, 0, none⟩) n.toNat c.toNat], hq, ?_, r.alloc hB _ rfl ?_⟩
  · exact ⟨by rw [r.len]; simp, _, _, _, rfl⟩
  · have hrow := made_row (R := RdC (w.alloc (.cells (madeCells z.cells (c.toNat * pe.size)) e)) Ok k) (x := k.dflt) hzs k.sz_pos (hzr _ _) c.toNat
    have htk := hrow.take n.toNat
    have hmin : (List.replicate c.toNat k.dflt).take n.toNat = List.replicate n.toNat k.dflt := by
      rw [List.take_replicate]; congr 1; omega
    rw [hmin] at htk
    rw [hsi]
    refine ⟨_, ⟨?_, .inr ⟨w.heap.size, 0, c.toNat, madeCells z.cells (c.toNat * k.sz), by simp, heap_alloc_new w _, by simp; omega, ?_, by rw [size_madeCells]; exact Nat.le_of_eq (Nat.zero_add _), by rw [List.drop_zero]⟩⟩, ?_⟩
    · have : n.toNat * k.sz ≤ c.toNat * k.sz := Nat.mul_le_mul_right _ (by omega)
      simp only [List.length_take, Array.length_toList, size_madeCells, List.length_replicate]
      exact Nat.min_eq_left this
    · simp only [maxLen]; omega
    · rw [hsi] at htk
      simpa using htk
theorem run_storeVar_at {t : TypeId} {pi : TypeInfo} (hi : P.info? t = some pi) {w : World} {g off : Nat} {cur : Array Value} {e : TypeId} (hg : w.heap[g]? = some (.cells cur e (0, 0))) {v : Value}
    (hs : v.cells.size = pi.size) (hl : off + v.cells.size ≤ cur.size) (h1 : oneCells v.cells.toList) :
    (Instr.storeAt t (.pointer (some ⟨g, off, none⟩)) v).run P w = .ok () (w.setRow g (putL cur.toList off v.cells.toList).toArray) := by
  have := run_storeCells_at P g off e v.cells.toList 0 cur w hg (by simpa using hl) h1
  simp only [Nat.add_zero] at this
  simp [Instr.storeAt, Instr.sureAddr, storeVar, run_sizeOf hi, hs, this, putL]
theorem aop_store (hT : ttOk P T = true) (hB : ∀ g, B g → g < w0.heap.size) {o : Oper} {t : TypeId} {p x : Operand} (hop : o.op = .store t p x) {st : St} {a : Act} (r : Rel B Ok0 w0 w Ok β st a.tmps.toList) {K : V → St → Prop}
    (h : aop T E o st K) : After P o a B Ok0 w0 w K := by
  simp only [aop, hop] at h
  obtain ⟨l, h2, hl⟩ := evL_sound r.s h
  obtain ⟨v, h3, hv⟩ := ev1_sound r.s h2
  obtain ⟨i, hi, h4⟩ := someK_iff h3
  obtain ⟨hc, h5⟩ := ifK_iff h4
  clear h h2 h3 h4
  simp only [Bool.and_eq_true] at hc
  obtain ⟨hd, hlen⟩ := hc
  have hlen := Nat.eq_of_beq_eq_true hlen
  obtain ⟨hcs, hone⟩ := hv.cells hd
  obtain ⟨pi, d, z, f⟩ := ti_facts hT hi
  have hsz : (a.eval x).cells.size = v.ls.length := by simpa using (All2.length hcs).symm
  have hps : (a.eval x).cells.size = pi.size := by rw [hsz, hlen, f.size]
  cases l with
  | ptr id off =>
    obtain ⟨ob, ho, h6⟩ := getK_iff h5
    clear h5
    obtain ⟨b, hb, hro⟩ := r.s.h.obj ho
    cases ob with
    | box bt cs =>
      obtain ⟨hle, h7⟩ := ifK_iff h6
      clear h6
      have hle := Nat.le_of_ble_eq_true hle
      rw [lfsK_eq, setK_eq] at h7
      obtain ⟨g, cur, hbv, hg, hall⟩ := hro
      obtain ⟨g', hb', hpv⟩ := hl
      rw [hb, hbv] at hb'
      obtain rfl : g = g' := by cases hb'; rfl
      have hcl : cs.length = cur.size := by simpa using All2.length hall
      have hrun := run_storeVar_at (P := P) f.info hg (off := off) hps (by omega) hone
      have hbl : blkOf b = some g := by rw [hbv]; rfl
      have hoth : ∀ g1, g1 < w.heap.size → blkOf b ≠ some g1 → (w.setRow g (putL cur.toList off (a.eval x).cells.toList).toArray).heap[g1]? = w.heap[g1]? := fun g1 _ hne =>
        setRow_other w g g1 _ (fun e => hne (by rw [hbl, e]))
      have hst := r.s.stay (w' := w.setRow g (putL cur.toList off (a.eval x).cells.toList).toArray) fun g1 hg1 hok => hoth g1 hg1 fun h => r.s.h.okNot b g1 (List.mem_of_getElem? hb) h hok
      refine ⟨undef, w.setRow g (putL cur.toList off (a.eval x).cells.toList).toArray, .inr ⟨by simp [execOp, hop, hpv, hrun], rfl⟩, by simp [tame, hop], _, _, Ok, β, h7, rfl, ?_⟩
      refine r.same (w' := w.setRow g (putL cur.toList off (a.eval x).cells.toList).toArray) hB hb (by simp) rfl rfl rfl hoth (r.s.same (w' := w.setRow g (putL cur.toList off (a.eval x).cells.toList).toArray) hb (by simp) hoth ?_)
      refine ⟨g, _, hbv, setRow_heap w g cur _ bt _ hg, ?_⟩
      exact (hall.put off hcs).mono fun _ _ => RelL.mono hst (fun _ _ h => h)
    | _ => exact h6.elim
  | ept id n sz off =>
    obtain ⟨ob, ho, h6⟩ := getK_iff h5
    clear h5
    obtain ⟨b, hb, hro⟩ := r.s.h.obj ho
    cases ob with
    | row e k l =>
      obtain ⟨hc, h7⟩ := ifK_iff h6
      clear h6
      simp only [Bool.and_eq_true] at hc
      obtain ⟨⟨hc1, hc2⟩, hc3⟩ := hc
      obtain rfl : sz = k.sz := Nat.eq_of_beq_eq_true hc1
      have hle := Nat.le_of_ble_eq_true hc2
      obtain ⟨y, hy, h8⟩ := someK_iff h7
      clear h7
      rw [stK_eq] at h8
      obtain ⟨xs, hown, hrow⟩ := hro
      obtain ⟨g, o0, m, c, hb', hn0, hnm, hpv⟩ := hl
      rw [hb] at hb'
      obtain rfl : b = .slice (some ⟨g, o0, none⟩) m c := by cases hb'; rfl
      rcases hown.2 with ⟨hv', _⟩ | ⟨g', o1, cap, cur, hv', hg, hnc, hcap, hcsz, htake⟩
      · cases hv'
      have hoo : o0 = o1 := by cases hv'; rfl
      subst hoo
      have hgg : g = g' := by cases hv'; rfl
      have hml : m = l.length := by cases hv'; rfl
      have hcc : c = cap := by cases hv'; rfl
      subst hgg; subst hml; subst hcc
      have hlt : n.toNat < l.length := by omega
      have hget : l[n.toNat]? = some (getE k l n) := by simp [getE, List.getD, List.getElem?_eq_getElem hlt]
      have hel := hrow.get hget
      -- the element's cells, with the new ones put in
      have hls : All2 (RelL w Ok β) (putL (leaves k (getE k l n)) off v.ls) (putL ((xs.drop (n.toNat * k.sz)).take k.sz) off (a.eval x).cells.toList) := (leaves_rel hel).put off hcs
      obtain ⟨β1, Ok1, r1, hOk1, hids, hkeep, hback, _⟩ := r.sink k.flat hls
      have hcond : k.flat = true ∨ id ∉ ownIds (putL (leaves k (getE k l n)) off v.ls) := by
        rcases Bool.or_eq_true_iff.1 hc3 with h | h
        · exact .inl h
        · exact .inr (by simpa using h)
      obtain ⟨hb1, ho1⟩ := hkeep id hcond
      have ho1 := ho1 e k l ho
      rw [hb] at hb1
      clear hkeep
      generalize sinkSt k.flat (ownIds (putL (leaves k (getE k l n)) off v.ls)) st = st1 at h8 r1 ho1
      obtain ⟨s1, hp1⟩ := st1
      have hdat : RdC w Ok1 k y (putL ((xs.drop (n.toNat * k.sz)).take k.sz) off (a.eval x).cells.toList) := by
        have hd := deep_sound (Ok' := fun g => Ok g ∨ idBlk β (ownIds (putL (leaves k (getE k l n)) off v.ls)) g) r.s.h (fun _ => .inl) hy (fun _ => .inr) hls
        cases hf : k.flat with
        | true => exact hd.flat hf
        | false => exact hd.mono ⟨fun g hg => hg.elim (hOk1 g) (hids hf g), fun _ _ _ h => h⟩
      obtain ⟨u1, hu1, xs1, hown1, hrow1⟩ := r1.s.h.obj ho1
      rw [hb1] at hu1
      obtain rfl : _ = u1 := Option.some.inj hu1
      have hxs1 : xs1 = xs := by
        rcases hown1.2 with ⟨hv', _⟩ | ⟨g2, o2, cap2, cur2, hv', hg2, _, _, _, htake2⟩
        · cases hv'
        · cases hv'
          rw [hg] at hg2
          cases hg2
          rw [← htake, ← htake2]
      subst hxs1
      have hmul : n.toNat * k.sz + k.sz ≤ l.length * k.sz := by
        have : (n.toNat + 1) * k.sz ≤ l.length * k.sz := Nat.mul_le_mul_right _ hlt
        rw [Nat.add_mul, Nat.one_mul] at this; exact this
      have hcapm : o0 + l.length * k.sz ≤ cur.size := by have : l.length * k.sz ≤ c * k.sz := Nat.mul_le_mul_right _ hnc; omega
      have hvl : (a.eval x).cells.toList.length = v.ls.length := by simpa using hsz
      have hrun := run_storeVar_at (P := P) f.info hg (off := o0 + n.toNat * k.sz + off) hps (by omega) hone
      have hbl : blkOf (.slice (some ⟨g, o0, none⟩) l.length c) = some g := rfl
      have hoth : ∀ g1, g1 < w.heap.size → blkOf (.slice (some ⟨g, o0, none⟩) l.length c) ≠ some g1 → (w.setRow g (putL cur.toList (o0 + n.toNat * k.sz + off) (a.eval x).cells.toList).toArray).heap[g1]? = w.heap[g1]? := fun g1 _ hne =>
        setRow_other w g g1 _ (fun e => hne (by rw [hbl, e]))
      have hst := r1.s.stay (w' := w.setRow g (putL cur.toList (o0 + n.toNat * k.sz + off) (a.eval x).cells.toList).toArray) fun g1 hg1 hok => hoth g1 hg1 fun h => r1.s.h.okNot _ g1 (List.mem_of_getElem? hb1) h hok
      simp only [setK_eq] at h8
      refine ⟨undef, w.setRow g (putL cur.toList (o0 + n.toNat * k.sz + off) (a.eval x).cells.toList).toArray, .inr ⟨by simp [execOp, hop, hpv, hrun], rfl⟩, by simp [tame, hop], _, _, Ok1, β1, h8, rfl, ?_⟩
      refine r1.same (w' := w.setRow g (putL cur.toList (o0 + n.toNat * k.sz + off) (a.eval x).cells.toList).toArray) hB hb1 (by simp) rfl rfl rfl hoth (r1.s.same (w' := w.setRow g (putL cur.toList (o0 + n.toNat * k.sz + off) (a.eval x).cells.toList).toArray) hb1 (by simp) hoth ?_)
      have hxl : xs1.length = l.length * k.sz := hown.1
      have hput : ((putL cur.toList (o0 + n.toNat * k.sz + off) (a.eval x).cells.toList).drop o0).take (l.length * k.sz) = putL xs1 (n.toNat * k.sz + off) (a.eval x).cells.toList := by
        rw [← htake, Nat.add_assoc o0, putL_drop (by simp; omega)]
        exact putL_take (by omega) (by simp; omega)
      have hpl : (putL cur.toList (o0 + n.toNat * k.sz + off) (a.eval x).cells.toList).length = cur.size := by
        simp only [putL, List.length_append, List.length_take, List.length_drop, Array.length_toList]
        omega
      have hmid := putL_mid (l := xs1) (vs := (a.eval x).cells.toList) (p := n.toNat * k.sz) (off := off) (sz := k.sz) (by omega) (by omega)
      refine ⟨putL xs1 (n.toNat * k.sz + off) (a.eval x).cells.toList, ⟨?_, .inr ⟨g, o0, c, _, by rw [List.length_set], setRow_heap w g cur _ e _ hg, by rw [List.length_set]; exact hnc, hcap, by rw [List.size_toArray, hpl]; exact hcsz, by rw [List.length_set]; exact hput⟩⟩, ?_⟩
      · rw [List.length_set, ← hput, List.length_take, List.length_drop, hpl]
        omega
      · rw [hmid]
        refine (hrow1.mono fun _ _ => RdC.mono hst).set hlt (hdat.mono hst) hdat.len
    | _ => exact h6.elim
  | _ => exact h5.elim
theorem deep_def {heap : List Ob} {k : K} {v : V1} {x : k.ty} (h : deep heap k v.ls = some x) : isDef v = true := by
  have key : ∀ {ls ls' : List Lf}, borLs heap ls = some ls' → ∀ l ∈ ls, l ≠ .undef ∧ l ≠ .skip := by
    intro ls
    induction ls with
    | nil => intro _ _ l hl; simp at hl
    | cons y r ih =>
      intro ls' h l hl
      simp only [borLs] at h
      split at h
      · rename_i z hz
        split at h
        · rename_i s hs
          rcases List.mem_cons.1 hl with rfl | hl
          · constructor <;> (rintro rfl; simp [borL] at hz)
          · exact ih hs l hl
        · cases h
      · cases h
  unfold deep at h
  split at h
  · rename_i ls' hb
    have hk := key hb
    cases v with
    | one l =>
      have := hk l (by simp [V1.ls])
      cases l <;> first | rfl | exact absurd rfl this.1 | exact absurd rfl this.2
    | agg ls =>
      simp only [isDef, List.all_eq_true]
      intro l hl
      have := hk l hl
      cases l <;> first | rfl | exact absurd rfl this.2
  · cases h
theorem ownIds_append : ∀ (l r : List Lf), ownIds (l ++ r) = ownIds l ++ ownIds r
  | [], r => rfl
  | x :: l, r => by rw [List.cons_append, ownIds_cons, ownIds_append l r, ownIds_cons x l, List.append_assoc]
def partLs : List (Nat × V1) → List Lf
  | [] => []
  | (_, v) :: r => v.ls ++ partLs r
theorem partIds_eq : ∀ vs : List (Nat × V1), partIds vs = ownIds (partLs vs)
  | [] => rfl
  | (_, v) :: r => by simp only [partIds, partLs, ownIds_append, partIds_eq r]
theorem fillR_sound {heap : List Ob} (hh : RelH w Ok β heap) {Ok' : Nat → Prop} (hs : ∀ g, Ok g → Ok' g) {k : K} : ∀ {vs : List (Nat × V1)} {ps : List (Nat × Value)} {l l' : List k.ty} {us : Array Value},
    fillR heap k vs l = some l' → All2 (fun x (p : Nat × Value) => x.1 = p.1 ∧ RelV1 w Ok β x.2 p.2) vs ps → (∀ g, idBlk β (partIds vs) g → Ok' g) → RdRow (RdC w Ok' k) k.sz l us.toList →
    (∃ us', Instr.fill (fun i => some (i * k.sz, k.sz)) us ps = some us' ∧ RdRow (RdC w Ok' k) k.sz l' us'.toList ∧ l'.length = l.length) ∧ ∃ cs, All2 (RelL w Ok β) (partLs vs) cs
  | [], [], l, l', us, h, _, _, hr => by
    simp only [fillR] at h
    cases h
    exact ⟨⟨us, rfl, hr, rfl⟩, [], trivial⟩
  | (i, x) :: vs, (j, v) :: ps, l, l', us, h, hv, hids, hr => by
    obtain ⟨⟨rfl, hx⟩, hv⟩ := hv
    simp only [fillR] at h
    split at h
    · rename_i y hy
      split at h
      · rename_i hi
        have hd := deep_def hy
        obtain ⟨hc, _⟩ := hx.cells hd
        have hdat : RdC w Ok' k y v.cells.toList := deep_sound hh hs hy (fun g hg => hids g (by
          obtain ⟨i, hi, r⟩ := hg
          exact ⟨i, List.mem_append_left _ hi, r⟩)) hc
        have hsz : v.cells.size = k.sz := by simpa using hdat.len
        have hul : us.size = l.length * k.sz := by simpa using hr.len
        have hle : i * k.sz + v.cells.size ≤ us.size := by
          have : (i + 1) * k.sz ≤ l.length * k.sz := Nat.mul_le_mul_right _ hi
          rw [Nat.add_mul, Nat.one_mul] at this
          omega
        have hput := hr.set hi hdat (by simpa using hsz)
        rw [← fill_put v.cells us (i * k.sz) hle] at hput
        obtain ⟨⟨us', h1, h2, h3⟩, cs, h4⟩ := fillR_sound hh hs h hv (fun g hg => hids g (by
          obtain ⟨i, hi, r⟩ := hg
          exact ⟨i, List.mem_append_right _ hi, r⟩)) hput
        refine ⟨⟨us', ?_, h2, by rw [h3, List.length_set]⟩, _, hc.append h4⟩
        simp only [Instr.fill]
        rw [if_neg (by simp [hsz]; omega)]
        exact h1
      · cases h
    · cases h
  | [], _ :: _, _, _, _, _, hv, _, _ => hv.elim
  | _ :: _, [], _, _, _, _, hv, _, _ => hv.elim
theorem aop_buildSlice (hT : ttOk P T = true) (hB : ∀ g, B g → g < w0.heap.size) {o : Oper} {t : TypeId} {n : Nat} {ps : Array (Nat × Operand)} (hop : o.op = .buildSlice t n ps) {st : St} {a : Act} (r : Rel B Ok0 w0 w Ok β st a.tmps.toList)
    {K : V → St → Prop} (h : aop T E o st K) : After P o a B Ok0 w0 w K := by
  simp only [aop, hop] at h
  obtain ⟨⟨e, k⟩, hek, h2⟩ := someK_iff h
  obtain ⟨vs, h3, hall⟩ := partsK_sound r.s h2
  obtain ⟨l, hl, h4⟩ := someK_iff h3
  rw [stK_eq] at h4
  obtain ⟨hle, h5⟩ := ifK_iff h4
  have hle : n * k.sz ≤ 16777216 := Nat.le_of_ble_eq_true hle
  rw [newK_eq] at h5
  clear h h2 h3 h4
  simp only at h5 hl
  obtain ⟨ie, z, hu, hie, hsi, hby, hz, hzs, hzr⟩ := skind_facts hT hek
  have hmade := made_row (R := RdC w (fun g => Ok g ∨ idBlk β (partIds vs) g) k) (x := k.dflt) hzs k.sz_pos (hzr _ _) n
  obtain ⟨⟨us, hfill, hrow, hll⟩, cs, hcs⟩ := fillR_sound (Ok' := fun g => Ok g ∨ idBlk β (partIds vs) g) r.s.h (fun _ => .inl) hl hall (fun _ => .inr) hmade
  rw [List.length_replicate] at hll
  obtain ⟨β1, Ok1, r1, hOk1, hids, _, hback, _⟩ := r.sink k.flat hcs
  rw [partIds_eq] at h5 hrow
  generalize sinkSt k.flat (ownIds (partLs vs)) st = st1 at h5 r1
  have hrow1 : RdRow (RdC w Ok1 k) k.sz l us.toList := by
    refine hrow.mono fun x c hx => ?_
    cases hf : k.flat with
    | true => exact hx.flat hf
    | false => exact hx.mono ⟨fun g hg => hg.elim (hOk1 g) (hids hf g), fun _ _ _ h => h⟩
  have hpt : (ps.map fun (x : Nat × Operand) => (x.1, a.eval x.2)).toList = ps.toList.map fun p => (p.1, a.eval p.2) := by simp
  have hrun : (Instr.buildSlice t n (ps.map fun (x : Nat × Operand) => (x.1, a.eval x.2))).run P w = .ok (.slice (some ⟨w.heap.size, 0, none⟩) n n) (w.alloc (.cells us e)) := by
    by_cases hn : n = 0
    · subst hn
      have hm : madeCells z.cells (0 * k.sz) = #[] := by simp [madeCells]
      rw [hm] at hfill
      rw [← hpt] at hfill
      simp only [Instr.buildSlice]
      simp [run_underlying hu, run_sizeOf hie, Nat.zero_mul, hsi, newRow]
      have hpp : (ps.map fun (x : Nat × Operand) => (x.1, a.eval x.2)) = #[] ∧ us = #[] := by
        cases hps : ps.toList with
        | nil =>
          have : ps = #[] := by apply Array.ext'; rw [hps]
          subst this
          simp [Instr.fill] at hfill
          exact ⟨by simp, hfill⟩
        | cons q qs =>
          exfalso
          rw [hpt, hps] at hfill
          simp only [List.map_cons, Instr.fill] at hfill
          have hul : us.size = 0 := by have := hrow.len; rw [hll] at this; simpa using this
          rw [hps] at hall
          cases vs with
          | nil => exact hall.elim
          | cons y ys =>
            obtain ⟨i0, y0⟩ := y
            simp only [List.replicate, fillR] at hl
            split at hl
            · simp at hl
            · cases hl
      obtain ⟨h1, h2⟩ := hpp
      have hps : ps = #[] := by
        have := congrArg Array.size h1
        simp at this
        exact this
      subst hps
      subst h2
      simp [Instr.fill, Result.andThen, Array.range_zero']
    · have hpos : 0 < n * k.sz := Nat.mul_pos (by omega) k.sz_pos
      refine run_buildSlice (P := P) w t e n _ us ie z hu hie hz (by rw [hsi]; omega) (by rw [hsi]; omega) ?_
      rw [hpt, hsi]
      exact hfill
  have hul : us.size = n * k.sz := by have := hrow.len; rw [hll] at this; simpa using this
  refine ⟨.slice (some ⟨w.heap.size, 0, none⟩) n n, w.alloc (.cells us e), .inl ?_, fun _ => .alloc _ _, _, _, Ok1, β1 ++ [.slice (some ⟨w.heap.size, 0, none⟩) n n], h5, ?_, r1.alloc hB _ rfl ?_⟩
  · simp only [execOp, hop]
    rw [Sem.run_bind]
    have e1 : (ps.map fun (x : Nat × Operand) => match x with | (i, x) => (i, a.eval x)) = ps.map fun (x : Nat × Operand) => (x.1, a.eval x.2) := rfl
    rw [e1, hrun]
    rfl
  · exact ⟨by rw [r1.len]; simp, _, _, _, rfl⟩
  · have hst : Stay w (w.alloc (.cells us e)) Ok1 Ok1 := r1.s.stay fun g hg _ => heap_alloc_old w _ g hg
    refine ⟨us.toList, ⟨by simp [hul, hll], .inr ⟨w.heap.size, 0, n, us, by rw [hll], heap_alloc_new w _, by rw [hll]; exact Nat.le_refl _, ?_, by omega, ?_⟩⟩, hrow1.mono fun _ _ => RdC.mono hst⟩
    · have : n * 1 ≤ n * k.sz := Nat.mul_le_mul_left _ k.sz_pos
      simp only [maxLen]; omega
    · rw [hll, List.drop_zero, List.take_of_length_le (by simp [hul])]
theorem run_append_none_at {t ty e : TypeId} {i : TypeInfo} {sz : Nat} (ht : P.underlying t = some (.slice e)) (hi : P.info? e = some i) {v : Value} {n : Nat} {xs : List Value} (hown : OwnsAt w e sz v n xs) (a : Option Addr) :
    (Builtin.append_ #[t, t] ty #[v, .slice a 0 0]).run P w = .ok v w := by
  rcases hown.2 with ⟨rfl, rfl⟩ | ⟨g, o, cap, cur, rfl, _, hnc, _⟩
  · cases a <;> simp [Builtin.append_, run_underlying ht, sizeOf, typeInfo, hi, Builtin.lenOf, Builtin.firstCells, loadCells, loadCellsFrom]
  · cases a <;> simp [Builtin.append_, run_underlying ht, sizeOf, typeInfo, hi, Builtin.lenOf, Builtin.firstCells, hnc, storeCells, loadCells, loadCellsFrom]
/-- An append, run: on a row of the frame's own (or nil), of data. -/
theorem append_run (hT : ttOk P T = true) {t e : TypeId} {k : K} (hek : skind T t = some (e, k)) (ty : TypeId) {v : Value} {n : Nat} {xs : List Value} (hown : OwnsAt w e k.sz v n xs) (hsl : ∃ a n c, v = .slice a n c) {Ok' : Nat → Prop}
    {l2 : List k.ty} {x : Value} (hx : RdS (RdC w Ok' k) w Ok' e k.sz l2 x) (hroom : room T e (n + l2.length)) :
    ∃ v' w' news, (Builtin.append_ #[t, t] ty #[v, x]).run P w = .ok v' w' ∧ OwnsAt w' e k.sz v' (n + l2.length) (xs ++ news) ∧ RdRow (RdC w Ok' k) k.sz l2 news ∧ w.grownBy w' v.ownBlock ∧
      (∀ g, v'.ownBlock = some g → v.ownBlock = some g ∨ w.heap.size ≤ g) ∧ ∃ a n c, v' = .slice a n c := by
  obtain ⟨ie, z, hu, hie, hsi, hby, hz, hzs, _⟩ := skind_facts hT hek
  obtain ⟨te, hte, hr⟩ := someK_iff hroom
  obtain ⟨pe, de, ze, fe⟩ := ti_facts hT hte
  obtain rfl : pe = ie := by have h1 := fe.info; rw [hie] at h1; cases h1; rfl
  rw [← fe.bytes] at hr
  rcases hx with ⟨rfl, a, rfl⟩ | ⟨g, off, cap, cur, tg, fr, rfl, _, hg, hc, hf, hrow⟩
  · refine ⟨v, w, [], run_append_none_at hu hie hown a, by simpa using hown, rfl, ⟨rfl, rfl, rfl, Nat.le_refl _, fun _ _ _ => rfl⟩, fun g h => .inl h, hsl⟩
  · have hlen : ((cur.toList.drop off).take (l2.length * k.sz)).length = l2.length * k.sz := hrow.len
    have h63 : n + l2.length ≤ maxLen := by
      have : (n + l2.length) * 1 ≤ (n + l2.length) * pe.bytes := Nat.mul_le_mul_left _ hby
      simp only [maxLen]; omega
    obtain ⟨v', w', h1, h2, h3, h4, h5⟩ := append_own (P := P) w t ty e pe z k.sz hu hie hz hsi hzs v n xs hown ⟨g, off, none⟩ l2.length cap _ hlen (fun j u hj => by
      rw [Addr.add_lit, cell_of_row w g _ cur tg fr hg]
      rw [List.getElem?_take] at hj
      split at hj
      · simpa using hj
      · cases hj) (RdRow.one (fun _ _ h => h.one) hrow) h63 hr
    exact ⟨v', w', _, h1, h2, hrow, h3, h4, h5⟩
theorem aop_append (hT : ttOk P T = true) (hB : ∀ g, B g → g < w0.heap.size) {o : Oper} {c : Call} (hop : o.op = .call c) (hcal : c.callee = .builtin .append) {st : St} {a : Act} (r : Rel B Ok0 w0 w Ok β st a.tmps.toList) {K : V → St → Prop}
    (h : aop T E o st K) : After P o a B Ok0 w0 w K := by
  simp only [aop, hop, hcal] at h
  split at h
  · rename_i s x t t' hargs hargt
    obtain ⟨htt, h2⟩ := ifK_iff h
    obtain rfl : t = t' := by simpa using htt
    clear h htt
    obtain ⟨ls, h3, hs⟩ := evL_sound r.s h2
    obtain ⟨lx, h4, hx⟩ := evL_sound r.s h3
    clear h2 h3
    have hargs : c.args = #[s, x] := by apply Array.ext'; rw [hargs]
    have hargt : c.argTypes = #[t, t] := by apply Array.ext'; rw [hargt]
    obtain ⟨⟨e, k⟩, hek, h5⟩ := someK_iff h4
    obtain ⟨l2, hl2, h6⟩ := someK_iff h5
    clear h4 h5
    have hxd : isDef (.one lx) = true := deep_def (v := .one lx) hl2
    have hls : All2 (RelL w Ok β) [lx] [a.eval x] := ⟨hx.to (by rintro rfl; simp [isDef] at hxd), trivial⟩
    have hdat0 : RdC w (fun g => Ok g ∨ idBlk β (ownIds [lx]) g) (.slice e k) l2 [a.eval x] := deep_sound r.s.h (fun _ => .inl) hl2 (fun _ => .inr) hls
    obtain ⟨vx, hvx, hdat⟩ := hdat0
    obtain rfl : a.eval x = vx := by cases hvx; rfl
    obtain ⟨β1, Ok1, r1, hOk1, hids, hkeep, hback, _⟩ := r.sink k.flat hls
    have hexec : ∀ v' w', (Builtin.append_ #[t, t] o.type #[a.eval s, a.eval x]).run P w = .ok v' w' → (execOp a.eval o).run P w = .ok (.value v') w' := by
      intro v' w' hr
      simp [execOp, hop, resolve, hcal, hargs, hargt, invoke, builtin, hr]
    have conv : ∀ {news : List Value}, RdRow (RdC w (fun g => Ok g ∨ idBlk β (ownIds [lx]) g) k) k.sz l2 news → RdRow (RdC w Ok1 k) k.sz l2 news := by
      intro news hn
      refine hn.mono fun y c hy => ?_
      cases hf : k.flat with
      | true => exact hy.flat hf
      | false => exact hy.mono ⟨fun g hg => hg.elim (hOk1 g) (hids hf g), fun _ _ _ h => h⟩
    cases ls with
    | own id =>
      obtain ⟨ob, ho, h7⟩ := getK_iff h6
      clear h6
      obtain ⟨b, hb, hro⟩ := r.s.h.obj ho
      cases ob with
      | row e' k' l =>
        obtain ⟨hc3, h8⟩ := ifK_iff h7
        clear h7
        split at h8
        · rename_i he
          have he1 : e = e' := he.1.symm
          have he2 : k' = k := he.2
          subst he1
          subst he2
          obtain ⟨hroom, h9⟩ := h8
          rw [stK_eq] at h9
          have h9 : K (.v (.one (.own id))) (killSt id (.row e k' (l ++ l2)) (sinkSt k'.flat (ownIds [lx]) st)) := h9
          have hbv : b = a.eval s := by have := hs.1; rw [hb] at this; cases this; rfl
          have hcond : k'.flat = true ∨ id ∉ ownIds [lx] := by
            rcases Bool.or_eq_true_iff.1 hc3 with h | h
            · exact .inl h
            · exact .inr (by simpa using h)
          obtain ⟨hb1, ho1⟩ := hkeep id hcond
          have ho1 := ho1 _ _ _ ho
          rw [hb] at hb1
          clear hkeep
          obtain ⟨u1, hu1, xs, hown, hrow⟩ := r1.s.h.obj ho1
          rw [hb1] at hu1
          obtain rfl : b = u1 := Option.some.inj hu1
          have hsl : ∃ a n c, b = .slice a n c := by rw [hbv]; exact hs.2
          obtain ⟨v', w', news, hrun, hown', hnews, hgr, hblk, hsl'⟩ := append_run (P := P) hT hek o.type hown hsl hdat hroom
          rw [hbv] at hrun
          generalize sinkSt k'.flat (ownIds [lx]) st = st1 at h9 r1 ho1
          have hst : Stay w w' Ok1 Ok1 := r1.s.stay fun g hg hok => hgr.block g hg fun h => r1.s.h.okNot b g (List.mem_of_getElem? hb1) (by rw [blkOf_slice hsl, ← h]) hok
          have hoth : ∀ g, g < w.heap.size → blkOf b ≠ some g → w'.heap[g]? = w.heap[g]? := fun g hg hne => hgr.block g hg fun h => hne (by rw [blkOf_slice hsl, ← h])
          have hv' : ∀ g, blkOf v' = some g → (blkOf b = some g ∨ w.heap.size ≤ g) ∧ g < w'.heap.size := fun g hg => by
            rw [blkOf_slice hsl'] at hg
            rw [blkOf_slice hsl]
            exact ⟨hblk g hg, hown'.lt hg⟩
          have hrs := r1.s.turn (w' := w') (v' := v') hb1 hgr.size hoth hv' (f := killL id) rfl (killL_rel hb1 hsl hst) (ob := .row e k' (l ++ l2))
            ⟨xs ++ news, by rw [List.length_append]; exact hown', (hrow.mono fun _ _ => RdC.mono hst).append ((conv hnews).mono fun _ _ => RdC.mono hst)⟩
          refine ⟨v', w', .inl (hexec v' w' hrun), by simp [tame, hop, hcal], _, _, Ok1, _, h9, ?_, r1.turn hB hb1 hgr.size hgr.os hgr.tape hgr.output hoth hv' hrs⟩
          exact ⟨List.getElem?_set_self (List.getElem?_eq_some_iff.1 hb1).1, hsl'⟩
        · exact h8.elim
      | _ => exact h7.elim
    | nils =>
      obtain ⟨hroom, h7⟩ := h6
      rw [stK_eq, newK_eq] at h7
      have hv : a.eval s = .slice none 0 0 := hs
      obtain ⟨v', w', news, hrun, hown', hnews, hgr, hblk, hsl'⟩ := append_run (P := P) hT hek o.type (n := 0) (xs := []) (OwnsAt.nil w e k.sz) ⟨none, 0, 0, rfl⟩ hdat (by rw [Nat.zero_add]; exact hroom)
      rw [← hv] at hrun
      rw [Nat.zero_add, List.nil_append] at hown'
      clear hkeep
      generalize sinkSt k.flat (ownIds [lx]) st = st1 at h7 r1
      have hoth : ∀ g, g < w.heap.size → w'.heap[g]? = w.heap[g]? := fun g hg => hgr.block g hg (by simp [Value.ownBlock])
      have hst : Stay w w' Ok1 Ok1 := r1.s.stay fun g hg _ => hoth g hg
      refine ⟨v', w', .inl (hexec v' w' hrun), by simp [tame, hop, hcal], _, _, Ok1, β1 ++ [v'], h7, ?_, r1.push hB hgr.size hgr.os hgr.tape hgr.output hoth (fun g hg => ?_) ⟨news, hown', (conv hnews).mono fun _ _ => RdC.mono hst⟩⟩
      · exact ⟨by rw [r1.len]; simp, hsl'⟩
      · rw [blkOf_slice hsl'] at hg
        rcases hblk g hg with h | h
        · simp [Value.ownBlock] at h
        · exact ⟨h, hown'.lt hg⟩
    | _ => exact h6.elim
  · exact h.elim
/-- An append leaves blocks of other types as they are. -/
theorem append_keep (hT : ttOk P T = true) {o : Oper} {c : Call} (hop : o.op = .call c) (hcal : c.callee = .builtin .append) {st : St} {a : Act} (r : RelS w Ok β st a.tmps.toList) {K : V → St → Prop}
    (h : aop T E o st K) {t0 t1 e0 : TypeId} {k0 : Go.AM.K} (hat : c.argTypes.toList = [t0, t1]) (hek0 : skind T t0 = some (e0, k0)) : ∃ v w1, (execOp a.eval o).run P w = .ok (.value v) w1 ∧ ∀ bt, e0 ≠ bt → KeepT bt w w1 := by
  simp only [aop, hop, hcal] at h
  split at h
  · rename_i s x t t' hargs hargt
    obtain ⟨htt, h2⟩ := ifK_iff h
    obtain rfl : t = t' := by simpa using htt
    clear h htt
    obtain rfl : t = t0 := by rw [hargt] at hat; injection hat
    obtain ⟨ls, h3, hs⟩ := evL_sound r h2
    obtain ⟨lx, h4, hx⟩ := evL_sound r h3
    clear h2 h3
    have hargs : c.args = #[s, x] := by apply Array.ext'; rw [hargs]
    have hargt : c.argTypes = #[t, t] := by apply Array.ext'; rw [hargt]
    obtain ⟨⟨e, k⟩, hek, h5⟩ := someK_iff h4
    obtain ⟨l2, hl2, h6⟩ := someK_iff h5
    clear h4 h5
    obtain ⟨rfl, rfl⟩ : e = e0 ∧ k = k0 := by rw [hek] at hek0; cases hek0; exact ⟨rfl, rfl⟩
    have hxd : isDef (.one lx) = true := deep_def (v := .one lx) hl2
    have hls : All2 (RelL w Ok β) [lx] [a.eval x] := ⟨hx.to (by rintro rfl; simp [isDef] at hxd), trivial⟩
    have hdat0 : RdC w (fun g => Ok g ∨ idBlk β (ownIds [lx]) g) (.slice e k) l2 [a.eval x] := deep_sound r.h (fun _ => .inl) hl2 (fun _ => .inr) hls
    obtain ⟨vx, hvx, hdat⟩ := hdat0
    obtain rfl : a.eval x = vx := by cases hvx; rfl
    have hexec : ∀ v' w', (Builtin.append_ #[t, t] o.type #[a.eval s, a.eval x]).run P w = .ok v' w' → (execOp a.eval o).run P w = .ok (.value v') w' := by
      intro v' w' hr
      simp [execOp, hop, resolve, hcal, hargs, hargt, invoke, builtin, hr]
    cases ls with
    | own id =>
      obtain ⟨ob, ho, h7⟩ := getK_iff h6
      obtain ⟨b, hb, hro⟩ := r.h.obj ho
      cases ob with
      | row e' k' l =>
        obtain ⟨hc3, h8⟩ := ifK_iff h7
        split at h8
        · rename_i he
          have he1 : e = e' := he.1.symm
          have he2 : k' = k := he.2
          subst he1
          subst he2
          obtain ⟨hroom, h9⟩ := h8
          have hbv : b = a.eval s := by have := hs.1; rw [hb] at this; cases this; rfl
          obtain ⟨xs, hown, hrow⟩ := hro
          have hsl : ∃ a n c, b = .slice a n c := by rw [hbv]; exact hs.2
          obtain ⟨v', w', news, hrun, hown', hnews, hgr, hblk, hsl'⟩ := append_run (P := P) hT hek o.type hown hsl hdat hroom
          rw [hbv] at hrun
          refine ⟨v', w', hexec v' w' hrun, fun bt hne => ⟨hgr.size, fun g cur fr hg => hgr.block g (Array.getElem?_eq_some_iff.1 hg).1 fun hob => ?_⟩⟩
          rcases hown.2 with ⟨rfl, _⟩ | ⟨g', o1, cap, cur', rfl, hg', _⟩
          · simp [Value.ownBlock] at hob
          · simp [Value.ownBlock] at hob
            subst hob
            rw [hg] at hg'
            cases hg'
            exact hne rfl
        · exact h8.elim
      | _ => exact h7.elim
    | nils =>
      obtain ⟨hroom, h7⟩ := h6
      have hv0 : a.eval s = .slice none 0 0 := hs
      obtain ⟨v', w', news, hrun, hown', hnews, hgr, hblk, hsl'⟩ := append_run (P := P) hT hek o.type (n := 0) (xs := []) (OwnsAt.nil w e k.sz) ⟨none, 0, 0, rfl⟩ hdat (by rw [Nat.zero_add]; exact hroom)
      rw [← hv0] at hrun
      exact ⟨v', w', hexec v' w' hrun, fun bt hne => ⟨hgr.size, fun g cur fr hg => hgr.block g (Array.getElem?_eq_some_iff.1 hg).1 (by simp [Value.ownBlock])⟩⟩
    | _ => exact h6.elim
  · exact h.elim
theorem aop_copy (hT : ttOk P T = true) (hB : ∀ g, B g → g < w0.heap.size) {o : Oper} {c : Call} (hop : o.op = .call c) (hcal : c.callee = .builtin .copy) {st : St} {a : Act} (r : Rel B Ok0 w0 w Ok β st a.tmps.toList) {K : V → St → Prop}
    (h : aop T E o st K) : After P o a B Ok0 w0 w K := by
  simp only [aop, hop, hcal] at h
  split at h
  · rename_i s x t t' hargs hargt
    obtain ⟨htt, h2⟩ := ifK_iff h
    obtain rfl : t = t' := by simpa using htt
    clear h htt
    obtain ⟨ls, h3, hs⟩ := evL_sound r.s h2
    obtain ⟨lx, h4, hx⟩ := evL_sound r.s h3
    clear h2 h3
    have hargs : c.args = #[s, x] := by apply Array.ext'; rw [hargs]
    have hargt : c.argTypes = #[t, t] := by apply Array.ext'; rw [hargt]
    obtain ⟨⟨e, k⟩, hek, h5⟩ := someK_iff h4
    obtain ⟨hflat, h5b⟩ := ifK_iff h5
    obtain ⟨l2, hl2, h6⟩ := someK_iff h5b
    clear h4 h5 h5b
    have hxd : isDef (.one lx) = true := deep_def (v := .one lx) hl2
    have hls : All2 (RelL w Ok β) [lx] [a.eval x] := ⟨hx.to (by rintro rfl; simp [isDef] at hxd), trivial⟩
    have hdat0 : RdC w (fun g => Ok g ∨ idBlk β (ownIds [lx]) g) (.slice e k) l2 [a.eval x] := deep_sound r.s.h (fun _ => .inl) hl2 (fun _ => .inr) hls
    obtain ⟨vx, hvx, hdat⟩ := hdat0
    obtain rfl : a.eval x = vx := by cases hvx; rfl
    obtain ⟨ie, z, hu, hie, hsi, hby, hz, hzs, _⟩ := skind_facts hT hek
    cases ls with
    | own id =>
      obtain ⟨ob, ho, h7⟩ := getK_iff h6
      clear h6
      obtain ⟨b, hb, hro⟩ := r.s.h.obj ho
      cases ob with
      | row e' k' l =>
        simp only at h7
        split at h7
        · rename_i he
          have he1 : e = e' := he.1.symm
          have he2 : k' = k := he.2
          subst he1
          subst he2
          rw [setK_eq] at h7
          have h8 : K (.v (.one (.int .i64 (min l2.length l.length : Nat)))) ⟨st.slots, st.heap.set id (.row e k' (l2.take l.length ++ l.drop l2.length))⟩ := h7
          clear h7
          have hbv : b = a.eval s := by have := hs.1; rw [hb] at this; cases this; rfl
          obtain ⟨xs, hown, hrow⟩ := hro
          have hmin : Nat.min l2.length l.length = min l2.length l.length := rfl
          -- the run
          have key : ∃ w' news, (Builtin.copy_ #[t, t] o.type #[a.eval s, a.eval x]).run P w = .ok (.int .i64 (min l2.length l.length : Nat)) w' ∧ OwnsAt w' e k'.sz b l.length (news ++ xs.drop news.length) ∧
              RdRow (RdC w Ok k') k'.sz (l2.take l.length) news ∧ w.grownBy w' b.ownBlock := by
            rcases hown.2 with ⟨hbn, hn⟩ | ⟨g, o0, cap, cur, hbs, hg, hnc, hcm, hcs, htake⟩
            · have hxs : xs = [] := List.eq_nil_of_length_eq_zero (by rw [hown.1, hn]; simp)
              refine ⟨w, [], ?_, by simpa [hxs] using hown, by rw [hn]; simp [RdRow], ⟨rfl, rfl, rfl, Nat.le_refl _, fun _ _ _ => rfl⟩⟩
              rw [← hbv, hbn, hn]
              rcases hdat with ⟨rfl, a0, hv⟩ | ⟨g, off, cap, cur, tg, fr, hv, _⟩
              · cases a0 <;> simp [Builtin.copy_, run_underlying hu, run_sizeOf hie, hv, Builtin.lenOf, Builtin.firstCells, loadCells, loadCellsFrom, goInt]
              · simp [Builtin.copy_, run_underlying hu, run_sizeOf hie, hv, Builtin.lenOf, Builtin.firstCells, loadCells, loadCellsFrom, goInt]
            · rcases hdat with ⟨rfl, a0, hv⟩ | ⟨g2, off, cap2, cur2, tg, fr, hv, _, hg2, hc2, hf2, hrow2⟩
              · refine ⟨w, [], ?_, by simpa using hown, by simp [RdRow], ⟨rfl, rfl, rfl, Nat.le_refl _, fun _ _ _ => rfl⟩⟩
                rw [← hbv, hbs]
                cases a0 <;> simp [Builtin.copy_, run_underlying hu, run_sizeOf hie, hv, Builtin.lenOf, Builtin.firstCells, storeCells, loadCells, loadCellsFrom, goInt]
              · have hnews : RdRow (RdC w (fun g => Ok g ∨ idBlk β (ownIds [lx]) g) k') k'.sz (l2.take l.length) (((cur2.toList.drop off).take (l2.length * k'.sz)).take (l.length * k'.sz)) := hrow2.take l.length
                have hnl := hnews.len
                have hone := RdRow.one (fun _ _ h => RdC.one h) hnews
                generalize hne : ((cur2.toList.drop off).take (l2.length * k'.sz)).take (l.length * k'.sz) = news at hnews hnl hone
                have hlt : (l2.take l.length).length = min l2.length l.length := by rw [List.length_take, Nat.min_comm]
                rw [hlt] at hnl
                have hcellsrun := run_firstCells_some (P := P) w k'.sz (min l2.length l.length) ⟨g2, off, none⟩ l2.length cap2 news hnl (fun j u hj => by
                  rw [Addr.add_lit, cell_of_row w g2 _ cur2 tg fr hg2]
                  rw [← hne, List.getElem?_take] at hj
                  split at hj
                  · rw [List.getElem?_take] at hj
                    split at hj
                    · simpa using hj
                    · cases hj
                  · cases hj)
                have hle : o0 + min l2.length l.length * k'.sz ≤ cur.size := by
                  have : min l2.length l.length * k'.sz ≤ cap * k'.sz := Nat.mul_le_mul_right _ (Nat.le_trans (Nat.min_le_right _ _) hnc)
                  omega
                have hst := run_storeCells_at P g o0 e news 0 cur w hg (by rw [hnl]; omega) hone
                simp only [Nat.add_zero] at hst
                have hdr : (cur.toList.take o0 ++ news ++ cur.toList.drop (o0 + news.length)).drop o0 = news ++ (cur.toList.drop o0).drop news.length := by
                  rw [List.append_assoc, List.drop_append_of_le_length (by rw [List.length_take]; simp; omega), List.drop_of_length_le (by rw [List.length_take]; omega), List.nil_append, List.drop_drop]
                have hfl : RdRow (RdC w Ok k') k'.sz (l2.take l.length) news := hnews.mono fun _ _ h => h.flat hflat
                have hxl := hown.1
                have hnle : news.length ≤ l.length * k'.sz := by rw [hnl]; exact Nat.mul_le_mul_right _ (Nat.min_le_right _ _)
                refine ⟨w.setRow g (cur.toList.take o0 ++ news ++ cur.toList.drop (o0 + news.length)).toArray, news, ?_, ⟨?_, .inr ⟨g, o0, cap, _, hbs, setRow_heap w g cur _ e _ hg, hnc, hcm, ?_, ?_⟩⟩, hfl, ⟨rfl, rfl, rfl, by simp, fun g1 _ hne => setRow_other w g g1 _ fun e => hne (by rw [hbs, e]; rfl)⟩⟩
                · rw [← hbv, hbs, hv]
                  simp [Builtin.copy_, run_underlying hu, run_sizeOf hie, Builtin.lenOf, hsi, hmin, hcellsrun, hst, goInt]
                · rw [List.length_append, List.length_drop]; omega
                · simp only [List.size_toArray, List.length_append, List.length_take, List.length_drop, Array.length_toList]
                  have : l.length * k'.sz ≤ cap * k'.sz := Nat.mul_le_mul_right _ hnc
                  omega
                · rw [List.toList_toArray, hdr, ← htake, List.take_append, List.take_of_length_le hnle, List.drop_take]
          obtain ⟨w', news, hrun, hown', hnews, hgr⟩ := key
          have hsl : ∃ a n c, b = .slice a n c := by rw [hbv]; exact hs.2
          have hoth : ∀ g, g < w.heap.size → blkOf b ≠ some g → w'.heap[g]? = w.heap[g]? := fun g hg hne => hgr.block g hg fun h => hne (by rw [blkOf_slice hsl, ← h])
          have hst : Stay w w' Ok Ok := r.s.stay fun g hg hok => hoth g hg fun h => r.s.h.okNot b g (List.mem_of_getElem? hb) h hok
          have hexec : (execOp a.eval o).run P w = .ok (.value (.int .i64 (min l2.length l.length : Nat))) w' := by
            simp [execOp, hop, resolve, hcal, hargs, hargt, invoke, builtin, hrun]
          refine ⟨_, w', .inl hexec, by simp [tame, hop, hcal], _, _, Ok, β, h8, rfl, r.same hB hb hgr.size hgr.os hgr.tape hgr.output hoth (r.s.same hb hgr.size hoth ?_)⟩
          have hlen : (l2.take l.length ++ l.drop l2.length).length = l.length := by
            rw [List.length_append, List.length_take, List.length_drop]; omega
          refine ⟨news ++ xs.drop news.length, by rw [hlen]; exact hown', ((hnews.mono fun _ _ => RdC.mono hst).append ?_)⟩
          have hd := (hrow.mono fun _ _ => RdC.mono hst).drop l2.length
          have hnl := hnews.len
          have hxl := hown.1
          rw [List.length_take] at hnl
          by_cases hc : l2.length ≤ l.length
          · rw [Nat.min_eq_right hc] at hnl
            rw [hnl]; exact hd
          · have e1 : l.drop l2.length = [] := List.drop_eq_nil_of_le (by omega)
            rw [Nat.min_eq_left (by omega)] at hnl
            have e2 : xs.drop news.length = [] := List.drop_eq_nil_of_le (by omega)
            rw [e1, e2]; rfl
        · exact h7.elim
      | _ => exact h7.elim
    | _ => exact h6.elim
  · exact h.elim
end
end Go.AM
namespace Go.AM
open Go.RowKit
section
variable {P : Program} {T : TT} {E : Env} {w w0 : World} {B Ok0 Ok : Nat → Prop} {β : List Value}
theorem isMapT_spec (hT : ttOk P T = true) {t : TypeId} (h : isMapT T t = true) :
    ∃ k e ie, P.underlying t = some (.map k e) ∧ P.underlying k = some .string ∧ P.info? e = some ie ∧ ie.zero = some (.bool false) := by
  unfold isMapT at h
  split at h
  · rename_i i hi
    obtain ⟨⟨k, e⟩, hkv⟩ := Option.isSome_iff_exists.1 h
    obtain ⟨pi, d, z, f⟩ := ti_facts hT hi
    have hk := f.kvp
    unfold kvOk at hk
    rw [hkv] at hk
    simp only [Bool.and_eq_true] at hk
    obtain ⟨⟨h1, h2⟩, h3⟩ := hk
    split at h1
    · rename_i k' e'
      simp only [Bool.and_eq_true, beq_iff_eq] at h1
      split at h2
      · rename_i hu
        split at h3
        · rename_i ie hie
          split at h3
          · rename_i b hz
            have : b = false := by simpa using h3
            subst this
            exact ⟨k, e, ie, by rw [f.und, h1.1, h1.2], hu, hie, hz⟩
          · cases h3
        · cases h3
      · cases h2
    · cases h1
  · cases h
theorem lowB_iff {s : ByteArray} {i : Nat} : lowB s i = true ↔ byteAt s i < 128 := by
  simp only [lowB, byteAt, Nat.blt_eq]; omega
/-- A block turns in place. -/
theorem Rel.put1 {st : St} {tm : List Value} (r : Rel B Ok0 w0 w Ok β st tm) (hB : ∀ g, B g → g < w0.heap.size) {id g : Nat} {v : Value} (hid : β[id]? = some v) (hg : blkOf v = some g) (o : Obj) {ob : Ob}
    (ho : ∀ w' : World, w'.heap[g]? = some o → RelO w' Ok β ob v) : Rel B Ok0 w0 { w with heap := w.heap.setIfInBounds g o } Ok β ⟨st.slots, st.heap.set id ob⟩ tm := by
  have hlt : g < w.heap.size := r.s.h.lt v g (List.mem_of_getElem? hid) hg
  have hoth : ∀ g', g' < w.heap.size → blkOf v ≠ some g' → ({ w with heap := w.heap.setIfInBounds g o } : World).heap[g']? = w.heap[g']? := fun g' _ hne => by
    have : g ≠ g' := fun e => hne (by rw [hg, e])
    simp [Array.getElem?_setIfInBounds_ne this]
  refine r.same (w' := { w with heap := w.heap.setIfInBounds g o }) hB hid (by simp) rfl rfl rfl hoth (r.s.same (w' := { w with heap := w.heap.setIfInBounds g o }) hid (by simp) hoth (ho _ ?_))
  simp [hlt]
theorem aop_nilCheck {o : Oper} {x : Operand} (hop : o.op = .nilCheck x) {st : St} {a : Act} (r : Rel B Ok0 w0 w Ok β st a.tmps.toList) {K : V → St → Prop} (h : aop T E o st K) :
    After P o a B Ok0 w0 w K := by
  simp only [aop, hop] at h
  obtain ⟨l, hq, hr⟩ := evL_sound r.s h
  cases l with
  | ptr id off =>
    obtain ⟨g, h1, h2⟩ := hr
    exact ⟨_, w, .inl (by simp [execOp, hop, h2]), fun _ => .refl w, _, st, Ok, β, hq, ⟨g, h1, rfl⟩, r⟩
  | _ => exact hq.elim
theorem aop_range (hT : ttOk P T = true) (hB : ∀ g, B g → g < w0.heap.size) {o : Oper} {t : TypeId} {x : Operand} (hop : o.op = .range t x) {st : St} {a : Act} (r : Rel B Ok0 w0 w Ok β st a.tmps.toList) {K : V → St → Prop} (h : aop T E o st K) :
    After P o a B Ok0 w0 w K := by
  simp only [aop, hop] at h
  obtain ⟨l, hq, hr⟩ := evL_sound r.s h
  cases l with
  | str s =>
    obtain ⟨hs, hq⟩ := ifK_iff hq
    rw [newK_eq] at hq
    have hv : a.eval x = .string s := hr
    have hrun := run_range_string (P := P) w t s (isStrT_spec hT hs)
    refine ⟨.pointer (some ⟨w.heap.size, 0, none⟩), w.iter s 0, .inl (by simp [execOp, hop, hv, hrun]), fun _ => .alloc _ _, _, _, Ok, β ++ [.pointer (some ⟨w.heap.size, 0, none⟩)], hq, ?_, r.alloc hB _ rfl ?_⟩
    · exact ⟨w.heap.size, by rw [r.len]; simp, rfl⟩
    · exact ⟨w.heap.size, rfl, heap_alloc_new w _⟩
  | _ => exact hq.elim
theorem run_next_at {g : Nat} {s : ByteArray} {pos : Nat} (hg : w.heap[g]? = some (.stringIter s pos)) (ty : TypeId) (h : pos < s.size) :
    (Instr.next (.pointer (some ⟨g, 0, none⟩)) true ty).run P w = .ok (.tuple #[.bool true, .int .i64 pos, .int .i32 (Utf8.decode s pos).1]) { w with heap := w.heap.setIfInBounds g (.stringIter s (pos + (Utf8.decode s pos).2)) } := by
  simp [Instr.next, getObj, setObj, Sem.run, hg, Result.andThen, h, goInt]
theorem tup_one {b : Bool} : RelV w Ok β (.tup [.one (.bool b)]) (.tuple #[.bool b]) := ⟨#[.bool b], rfl, rfl, trivial⟩
theorem tup_three {b : Bool} {x y : Int} : RelV w Ok β (.tup [.one (.bool b), .one (.int .i64 x), .one (.int .i32 y)]) (.tuple #[.bool b, .int .i64 x, .int .i32 y]) :=
  ⟨#[.bool b, .int .i64 x, .int .i32 y], rfl, rfl, rfl, rfl, trivial⟩
theorem aop_next (hB : ∀ g, B g → g < w0.heap.size) {o : Oper} {x : Operand} (hop : o.op = .next x true) {st : St} {a : Act} (r : Rel B Ok0 w0 w Ok β st a.tmps.toList) {K : V → St → Prop} (h : aop T E o st K) :
    After P o a B Ok0 w0 w K := by
  simp only [aop, hop] at h
  obtain ⟨l, hq, hr⟩ := evL_sound r.s h
  split at hq
  · rename_i id
    obtain ⟨ob, ho, hq⟩ := getK_iff hq
    obtain ⟨b, hb, hro⟩ := r.s.h.obj ho
    cases ob with
    | iter s pos =>
      dsimp only at hq
      obtain ⟨g, hbv, hg⟩ := hro
      obtain ⟨g', hb', hpv⟩ := hr
      rw [hb, hbv] at hb'
      obtain rfl : g = g' := by cases hb'; rfl
      have hbl : blkOf b = some g := by rw [hbv]; rfl
      by_cases hp : pos < s.size
      · rw [decide_eq_true hp] at hq
        simp only [brP] at hq
        have hrun := run_next_at (P := P) hg o.type hp
        by_cases hc : byteAt s pos < 128
        · rw [lowB_iff.2 hc] at hq
          simp only [setK_eq] at hq
          have hd := decode_ascii s pos hp (by rw [byteAt_eq hp] at hc; omega)
          rw [hd] at hrun
          rw [← byteAt_eq hp] at hrun
          exact ⟨_, _, .inl (by simp only [execOp, hop, hpv]; rw [Sem.run_bind, hrun]; rfl), by simp [tame, hop], _, _, Ok, β, hq, tup_three, r.put1 hB hb hbl _ fun w' h' => ⟨g, hbv, h'⟩⟩
        · rw [show lowB s pos = false by rw [← Bool.not_eq_true]; exact fun h => hc (lowB_iff.1 h)] at hq
          simp only [setK_eq] at hq
          obtain ⟨h1, h2⟩ := decode_high s pos hp (by rw [byteAt_eq hp] at hc; omega)
          have hq := hq ((Utf8.decode s pos).1 : Int) (by omega) (Utf8.decode s pos).2
          exact ⟨_, _, .inl (by simp only [execOp, hop, hpv]; rw [Sem.run_bind, hrun]; rfl), by simp [tame, hop], _, _, Ok, β, hq, tup_three, r.put1 hB hb hbl _ fun w' h' => ⟨g, hbv, h'⟩⟩
      · rw [decide_eq_false hp] at hq
        simp only [brP] at hq
        have hrun : (Instr.next (.pointer (some ⟨g, 0, none⟩)) true o.type).run P w = .ok (.tuple #[.bool false]) w := by
          simp [Instr.next, getObj, Sem.run, hg, hp]
        exact ⟨_, w, .inl (by simp only [execOp, hop, hpv]; rw [Sem.run_bind, hrun]; rfl), fun _ => .refl w, _, _, Ok, β, hq, tup_one, r⟩
    | _ => exact hq.elim
  · exact hq.elim
theorem aop_makeMap (hB : ∀ g, B g → g < w0.heap.size) {o : Oper} {t : TypeId} (hop : o.op = .makeMap t none) {st : St} {a : Act} (r : Rel B Ok0 w0 w Ok β st a.tmps.toList) {K : V → St → Prop} (h : aop T E o st K) :
    After P o a B Ok0 w0 w K := by
  simp only [aop, hop] at h
  obtain ⟨_, hq⟩ := ifK_iff h
  rw [newK_eq] at hq
  refine ⟨.map (some w.heap.size), w.alloc (.map #[] 0), .inl (by simp [execOp, hop, Instr.makeMap]), fun _ => .alloc _ _, _, _, Ok, β ++ [.map (some w.heap.size)], hq, ?_, r.alloc hB _ rfl ?_⟩
  · exact ⟨by rw [r.len]; simp, w.heap.size, rfl⟩
  · exact ⟨w.heap.size, #[], 0, rfl, heap_alloc_new w _, rfl⟩
/-- A row without its head. -/
theorem aop_sliceOwn (hT : ttOk P T = true) (hB : ∀ g, B g → g < w0.heap.size) {o : Oper} {t : TypeId} {x : Operand} {c : Value} (hop : o.op = .slice t x (some (.const c)) none none) {st : St} {a : Act} (r : Rel B Ok0 w0 w Ok β st a.tmps.toList) {K : V → St → Prop} (h : aop T E o st K) :
    After P o a B Ok0 w0 w K := by
  simp only [aop, hop, sliceOwnK] at h
  obtain ⟨lf, hq, hr⟩ := evL_sound r.s h
  clear h
  cases lf with
  | own id =>
    cases c with
    | int ik A =>
      obtain ⟨ob, ho, h2⟩ := getK_iff hq
      clear hq
      obtain ⟨b, hb, hro⟩ := r.s.h.obj ho
      cases ob with
      | row e k l =>
        obtain ⟨⟨e', k'⟩, hek, h3⟩ := someK_iff h2
        clear h2
        obtain ⟨hsz, ⟨h0, hA, hpos⟩, hq⟩ := ifK_iff h3
        clear h3
        have hsz := Nat.eq_of_beq_eq_true hsz
        simp only at hsz
        rw [stK_eq] at hq
        obtain ⟨ie, z, hu, hie, hsi, _⟩ := skind_facts hT hek
        obtain ⟨d, rfl⟩ := Int.eq_ofNat_of_zero_le h0
        have hdl : d ≤ l.length := by omega
        obtain ⟨hbe, hsl⟩ := hr
        rw [hb] at hbe
        obtain rfl : b = a.eval x := by cases hbe; rfl
        obtain ⟨xs, hown, hrow⟩ := hro
        rcases hown.2 with ⟨_, hn⟩ | ⟨g, o0, cap, cur, hv, hg, hnc, hcm, hcs, htake⟩
        · omega
        have hdc : d ≤ cap := by omega
        have hdc' : (d : Int) ≤ (l.length : Int) := by omega
        have hce : ∀ n : Int, a.eval (.const (.int ik n)) = .int ik n := fun _ => rfl
        have hrun : (execOp a.eval o).run P w = .ok (.value (.slice (some (if cap = d then (⟨g, o0, none⟩ : Addr) else ⟨g, o0 + d * k.sz, none⟩)) (l.length - d) (cap - d))) w := by
          by_cases hcd : cap = d
          · subst hcd
            simp [execOp, hop, Instr.sliceAt, run_underlying hu, Instr.slice, hv, Instr.sliceBounds, Instr.sliceBound, asIntOf, hce, hdl, run_sizeOf hie]
          · simp [execOp, hop, Instr.sliceAt, run_underlying hu, Instr.slice, hv, Instr.sliceBounds, Instr.sliceBound, asIntOf, hce, hdl, run_sizeOf hie, hcd, Addr.add_lit, hsi, hsz]
        have hbl : blkOf (a.eval x) = some g := by rw [hv]; rfl
        have hown' : OwnsAt w e k.sz (.slice (some (if cap = d then (⟨g, o0, none⟩ : Addr) else ⟨g, o0 + d * k.sz, none⟩)) (l.length - d) (cap - d)) (l.drop d).length (xs.drop (d * k.sz)) := by
          have hmul : (l.length - d) * k.sz = l.length * k.sz - d * k.sz := Nat.sub_mul _ _ _
          have hxl := hown.1
          refine ⟨by rw [List.length_drop, List.length_drop, hxl, hmul], ?_⟩
          by_cases hcd : cap = d
          · have hz : l.length - d = 0 := by omega
            refine .inr ⟨g, o0, cap - d, cur, by rw [if_pos hcd, List.length_drop], hg, by rw [List.length_drop]; omega, by omega, ?_, ?_⟩
            · have : (cap - d) * k.sz = 0 := by rw [hcd]; simp
              omega
            · rw [List.length_drop, hz, Nat.zero_mul, List.take_zero, List.drop_of_length_le]
              have : l.length = d := by omega
              rw [hxl, this]; exact Nat.le_refl _
          · refine .inr ⟨g, o0 + d * k.sz, cap - d, cur, by rw [if_neg hcd, List.length_drop], hg, by rw [List.length_drop]; omega, by omega, ?_, ?_⟩
            · have h1 : (cap - d) * k.sz = cap * k.sz - d * k.sz := Nat.sub_mul _ _ _
              have h2 : d * k.sz ≤ cap * k.sz := Nat.mul_le_mul_right _ hdc
              omega
            · rw [← htake, List.drop_take, List.drop_drop, List.length_drop, hmul]
        have hst : Stay w w Ok Ok := .refl w Ok
        have hsl' : ∃ a' n c, (Value.slice (some (if cap = d then (⟨g, o0, none⟩ : Addr) else ⟨g, o0 + d * k.sz, none⟩)) (l.length - d) (cap - d)) = .slice a' n c := ⟨_, _, _, rfl⟩
        have hblk : blkOf (.slice (some (if cap = d then (⟨g, o0, none⟩ : Addr) else ⟨g, o0 + d * k.sz, none⟩)) (l.length - d) (cap - d)) = some g := by
          simp only [blkOf]; split <;> rfl
        generalize hvv : (Value.slice (some (if cap = d then (⟨g, o0, none⟩ : Addr) else ⟨g, o0 + d * k.sz, none⟩)) (l.length - d) (cap - d)) = v' at hrun hown' hsl' hblk
        have hglt : g < w.heap.size := (Array.getElem?_eq_some_iff.1 hg).1
        have hv' : ∀ g1, blkOf v' = some g1 → (blkOf (a.eval x) = some g1 ∨ w.heap.size ≤ g1) ∧ g1 < w.heap.size := fun g1 h1 => by
          rw [hblk] at h1; cases h1; exact ⟨.inl hbl, hglt⟩
        have hrs := r.s.turn (w' := w) (v' := v') hb (Nat.le_refl _) (fun _ _ _ => rfl) hv' (f := killL id) rfl (killL_rel hb hsl hst) (ob := .row e k (l.drop d)) ⟨_, hown', hrow.drop d⟩
        refine ⟨v', w, .inl hrun, fun _ => .refl w, _, _, Ok, β.set id v', hq, ?_, r.turn hB hb (Nat.le_refl _) rfl rfl rfl (fun _ _ _ => rfl) hv' hrs⟩
        exact ⟨List.getElem?_set_self (List.getElem?_eq_some_iff.1 hb).1, hsl'⟩
      | _ => exact h2.elim
    | _ => exact hq.elim
  | _ => exact hq.elim
/-! maps -/
theorem beqB (s t : ByteArray) : (s == t) = decide (s = t) := by
  rw [Bool.eq_iff_iff, MapKept.bytes_beq, decide_eq_true_iff]
theorem findNow_spec {s : ByteArray} : ∀ (es : List MapEntry) (l : List (ByteArray × Bool)) (i : Nat), es.map (fun e => (e.key, e.val)) = l.map (fun p => (Value.string p.1, Value.bool p.2)) →
    (Instr.findNow .string (.string s) es i = some none ∧ mget l s = false ∧ ∀ b, es.map (fun e => (e.key, e.val)) ++ [(.string s, .bool b)] = (mset l s b).map (fun p => (Value.string p.1, Value.bool p.2))) ∨
    ∃ j, Instr.findNow .string (.string s) es i = some (some (i + j, .bool (mget l s))) ∧ (∃ e, es[j]? = some e ∧ e.key = .string s) ∧
      ∀ b, (es.modify j fun e => { e with key := .string s, val := .bool b }).map (fun e => (e.key, e.val)) = (mset l s b).map (fun p => (Value.string p.1, Value.bool p.2))
  | [], [], i, _ => .inl ⟨rfl, rfl, fun _ => rfl⟩
  | [], _ :: _, _, h => by simp at h
  | _ :: _, [], _, h => by simp at h
  | e :: es, (k, v) :: l, i, h => by
    simp only [List.map_cons, List.cons.injEq, Prod.mk.injEq] at h
    obtain ⟨⟨hk, hv⟩, ht⟩ := h
    by_cases he : s = k
    · subst he
      refine .inr ⟨0, ?_, ⟨e, rfl, hk⟩, fun b => ?_⟩
      · simp [Instr.findNow, Instr.sameNow, hk, hv, mget, beqB]
      · simp [List.modify, mset, ht, beqB]
    · have hb : (s == k) = false := by simp [beqB, he]
      have hf : Instr.findNow .string (.string s) (e :: es) i = Instr.findNow .string (.string s) es (i + 1) := by
        simp [Instr.findNow, Instr.sameNow, hk, hb]
      rcases findNow_spec (s := s) es l (i + 1) ht with ⟨h1, h2, h3⟩ | ⟨j, h1, h2, h3⟩
      · refine .inl ⟨by rw [hf, h1], by simp [mget, hb, h2], fun b => ?_⟩
        simp only [List.map_cons, List.cons_append, mset, hb, cond_false, hk, hv]
        rw [h3 b]
      · refine .inr ⟨j + 1, by rw [hf, h1]; simp [mget, hb]; omega, by simpa using h2, fun b => ?_⟩
        simp only [List.modify_succ_cons, List.map_cons, mset, hb, cond_false, hk, hv]
        rw [h3 b]
theorem run_checkKey' {t : TypeId} (h : P.underlying t = some .string) (s : ByteArray) (b : Bool) (w : World) (n : Nat) : (Instr.checkKey b (n + 1) t (.string s)).run P w = .ok () w := by
  unfold Instr.checkKey
  rw [Sem.run_bind, run_underlying h]; rfl
theorem run_checkKey {t : TypeId} (h : P.underlying t = some .string) (s : ByteArray) (b : Bool) (w : World) : (Instr.checkKey b 10000 t (.string s)).run P w = .ok () w := by
  exact run_checkKey' h s b w 9999
theorem run_findKey {t : TypeId} (h : P.underlying t = some .string) (s : ByteArray) (es : List MapEntry) (w : World) {r : Option (Nat × Value)} (hf : Instr.findNow .string (.string s) es 0 = some r) : (Instr.findKey t (.string s) es).run P w = .ok r w := by
  simp [Instr.findKey, run_underlying h, hf]
theorem mapPut_sound (hT : ttOk P T = true) (hB : ∀ g, B g → g < w0.heap.size) {o : Oper} {t : TypeId} {m k x : Operand} (hop : o.op = .insert t m k x ∨ o.op = .mapUpdate t m k x) {st : St} {a : Act} (r : Rel B Ok0 w0 w Ok β st a.tmps.toList) {K : V → St → Prop} (h : mapPutK T st t m k x K) :
    After P o a B Ok0 w0 w K := by
  unfold mapPutK at h
  obtain ⟨l, hq, hr⟩ := evL_sound r.s h
  obtain ⟨kl, hq, hk⟩ := evL_sound r.s hq
  obtain ⟨xl, hq, hx⟩ := evL_sound r.s hq
  cases l with
  | mp id =>
    cases kl with
    | str s =>
      cases xl with
      | bool bv =>
        obtain ⟨ob, ho, hq⟩ := getK_iff hq
        obtain ⟨b, hb, hro⟩ := r.s.h.obj ho
        cases ob with
        | map l =>
          obtain ⟨hm, hq⟩ := ifK_iff hq
          simp only [setK_eq] at hq
          obtain ⟨kt, et, ie, hu, huk, _, _⟩ := isMapT_spec hT hm
          obtain ⟨g, es, ck, hbv, hg, hes⟩ := hro
          obtain ⟨hb', _⟩ := hr
          rw [hb] at hb'
          have hmv : a.eval m = .map (some g) := by cases hb'; exact hbv
          have hkv : a.eval k = .string s := hk
          have hxv : a.eval x = .bool bv := hx
          have hbl : blkOf b = some g := by rw [hbv]; rfl
          have htm : tame o = false := by rcases hop with h | h <;> simp [tame, h]
          have fin : ∀ es' ck', (Instr.mapUpdate t (.map (some g)) (.string s) (.bool bv)).run P w = .ok () { w with heap := w.heap.setIfInBounds g (.map es' ck') } →
              es'.toList.map (fun e : MapEntry => (e.key, e.val)) = (mset l s bv).map (fun p => (Value.string p.1, Value.bool p.2)) → After P o a B Ok0 w0 w K := by
            intro es' ck' hrun hes'
            refine ⟨undef, _, .inr ⟨?_, rfl⟩, by simp [htm], _, _, Ok, β, hq, rfl, r.put1 hB hb hbl (.map es' ck') fun w' h' => ⟨g, es', ck', hbv, h', hes'⟩⟩
            rcases hop with h | h <;> simp [execOp, h, hmv, hkv, hxv, hrun]
          have hck := run_checkKey (P := P) huk s false w
          rcases findNow_spec (s := s) es.toList l 0 hes with ⟨h1, h2, h3⟩ | ⟨j, h1, ⟨e, he, hek⟩, h3⟩
          · have hf := run_findKey (P := P) huk s es.toList w h1
            refine fin (es.push { key := .string s, val := .bool bv, born := ck }) (ck + 1) ?_ (by simpa using h3 bv)
            simp [Instr.mapUpdate, run_underlying hu, getObj, setObj, Sem.run, hg, Result.andThen, hck, hf]
          · rw [Nat.zero_add] at h1
            have hf := run_findKey (P := P) huk s es.toList w h1
            have hej : es[j]? = some e := by simpa using he
            refine fin (es.modify j fun e => { e with key := .string s, val := .bool bv }) ck ?_ (by simpa using h3 bv)
            have hst : (Instr.keyThatStays (((es[j]?).map (·.key)).getD (.string s)) (.string s)).run P w = .ok (.string s) w := by
              have : Instr.sameBits 10000 (.string s) (.string s) = true := by
                unfold Instr.sameBits
                rw [beqB]; exact decide_eq_true rfl
              simp [hej, hek, Instr.keyThatStays, this]
            simp [Instr.mapUpdate, run_underlying hu, getObj, setObj, Sem.run, hg, Result.andThen, hck, hf, hst]
        | _ => exact hq.elim
      | _ => exact hq.elim
    | _ => exact hq.elim
  | _ => exact hq.elim
theorem aop_lookup (hT : ttOk P T = true) {o : Oper} {t : TypeId} {x k : Operand} (hop : o.op = .lookup t x k false) {st : St} {a : Act} (r : Rel B Ok0 w0 w Ok β st a.tmps.toList) {K : V → St → Prop} (h : aop T E o st K) :
    After P o a B Ok0 w0 w K := by
  simp only [aop, hop] at h
  obtain ⟨l, hq, hr⟩ := evL_sound r.s h
  obtain ⟨kl, hq, hk⟩ := evL_sound r.s hq
  cases l with
  | mp id =>
    cases kl with
    | str s =>
      obtain ⟨ob, ho, hq⟩ := getK_iff hq
      obtain ⟨b, hb, hro⟩ := r.s.h.obj ho
      cases ob with
      | map l =>
        dsimp only at hq
        obtain ⟨hm, hq⟩ := ifK_iff hq
        obtain ⟨kt, et, ie, hu, huk, hie, hz⟩ := isMapT_spec hT hm
        obtain ⟨g, es, ck, hbv, hg, hes⟩ := hro
        obtain ⟨hb', _⟩ := hr
        rw [hb] at hb'
        have hmv : a.eval x = .map (some g) := by cases hb'; exact hbv
        have hkv : a.eval k = .string s := hk
        have hck := run_checkKey (P := P) huk s es.isEmpty w
        have hrun : (Instr.lookup t (.map (some g)) (.string s) false).run P w = .ok (.bool (mget l s)) w := by
          rcases findNow_spec (s := s) es.toList l 0 hes with ⟨h1, h2, h3⟩ | ⟨j, h1, _, h3⟩
          · have hf := run_findKey (P := P) huk s es.toList w h1
            have hzv : (zeroValue et).run P w = .ok (.bool false) w := by simp [zeroValue, run_info hie, hz]
            simp [Instr.lookup, run_underlying hu, getObj, Sem.run, hg, Result.andThen, hck, hf, hzv, h2]
          · have hf := run_findKey (P := P) huk s es.toList w h1
            simp [Instr.lookup, run_underlying hu, getObj, Sem.run, hg, Result.andThen, hck, hf]
        exact ⟨_, w, .inl (by simp [execOp, hop, hmv, hkv, hrun]), fun _ => .refl w, _, st, Ok, β, hq, rfl, r⟩
      | _ => exact hq.elim
    | _ => exact hq.elim
  | _ => exact hq.elim
end
end Go.AM
