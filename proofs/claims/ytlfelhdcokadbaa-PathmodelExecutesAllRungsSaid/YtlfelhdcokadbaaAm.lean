/- An abstract machine over loaded Go code: a predicate transformer on states whose values are plain Lean data. Conditions: none. -/
import Derived.Below
import Derived.Deep.Draws
import Derived.Laws.MakeOwn
import Derived.OrdersHeld
import Derived.KernelRfl
set_option linter.all false
namespace Go.AM
open Go.RowKit

/-! ### kinds of data -/
/-- The kinds of deep data: what an element of a slice, or a whole argument, reads as. -/
inductive K where
  | int (k : IntKind) | bool | str | pair (a b : K) | slice (e : TypeId) (k : K)
  deriving DecidableEq
@[reducible] def K.ty : K → Type
  | .int _ => Int
  | .bool => Bool
  | .str => ByteArray
  | .pair a b => a.ty × b.ty
  | .slice _ k => List k.ty
def K.sz : K → Nat
  | .pair a b => a.sz + b.sz
  | _ => 1
def K.flat : K → Bool
  | .pair a b => a.flat && b.flat
  | .slice _ _ => false
  | _ => true
def K.dflt : (k : K) → k.ty
  | .int _ => (0 : Int)
  | .bool => false
  | .str => ByteArray.empty
  | .pair a b => (a.dflt, b.dflt)
  | .slice _ _ => []
/-- An element of a list, by an int. -/
def getE (k : K) (l : List k.ty) (i : Int) : k.ty := l.getD i.toNat k.dflt

/-! ### values -/
inductive Cap where
  | id (n : Nat) | imm (k : K) (x : k.ty)
/-- What a cell or a temporary holds. -/
inductive Lf where
  | undef                                            -- nothing is known
  | skip                                             -- the operation was passed over
  | int (k : IntKind) (x : Int)
  | bool (b : Bool)
  | str (s : ByteArray)
  | sl (e : TypeId) (k : K) (l : List k.ty)          -- a slice that is only read
  | nils                                             -- the nil slice
  | own (id : Nat)                                   -- a slice over a row of the frame's own
  | ptr (id off : Nat)                               -- into a box of the frame's own
  | ept (id : Nat) (i : Int) (sz off : Nat)          -- into an element (of sz cells) of a row of the frame's own
  | rp (k : K) (x : k.ty) (off : Nat)                -- into memory that is only read
  | nilp
  | clo (f : FuncId) (caps : List Cap)
  | mp (id : Nat)                                    -- a map of the frame's own
  | yld (l : Nat)                                    -- a loop's yield
inductive V1 where
  | one (l : Lf) | agg (ls : List Lf)
inductive V where
  | v (x : V1) | tup (xs : List V1)
inductive Ob where
  | box (t : TypeId) (cells : List Lf)
  | row (e : TypeId) (k : K) (l : List k.ty)
  | dead
  | iter (s : ByteArray) (pos : Nat)                 -- a walk over a string
  | map (l : List (ByteArray × Bool))                -- from strings to bools
  | frame (u : List Value) (cs : List V)             -- another frame's temporaries
  | raw (g : Nat) (o : Obj)                          -- a block as it is
structure St where
  slots : List V
  heap : List Ob
def V1.ls : V1 → List Lf
  | .one l => [l]
  | .agg ls => ls

def leaves : (k : K) → k.ty → List Lf
  | .int ik, x => [.int ik x]
  | .bool, b => [.bool b]
  | .str, s => [.str s]
  | .pair a b, x => leaves a x.1 ++ leaves b x.2
  | .slice e k, l => [.sl e k l]
/-- Cells read as data; what is left of them. -/
def unleaf : (k : K) → List Lf → Option (k.ty × List Lf)
  | .int ik, .int jk x :: r => if ik = jk then some (x, r) else none
  | .bool, .bool b :: r => some (b, r)
  | .str, .str s :: r => some (s, r)
  | .pair a b, ls =>
    match unleaf a ls with
    | some (x, r) => match unleaf b r with
      | some (y, r') => some ((x, y), r')
      | none => none
    | none => none
  | .slice e k, .sl e' k' l :: r => if e = e' then if h : k' = k then some (h ▸ l, r) else none else none
  | .slice _ _, .nils :: r => some ([], r)
  | _, _ => none

/-! ### the types' table -/
structure TI where
  agg : Bool := false
  zero : List Lf
  kd : Option K := none
  fields : List (Nat × Nat × Bool) := []
  elem : TypeId := 0
  len : Nat := 0
  bytes : Nat := 0
  kv : Option (TypeId × TypeId) := none
abbrev TT := List (TypeId × TI)
def tget : TT → TypeId → Option TI
  | [], _ => none
  | (t, i) :: r, u => if t = u then some i else tget r u
/-- A slice type's element kind. -/
def skind (T : TT) (t : TypeId) : Option (TypeId × K) :=
  match tget T t with
  | some i => match i.kd with
    | some (.slice e k) => some (e, k)
    | _ => none
  | none => none

/-! ### small steps in the strict style -/
def setK {α : Type} : List α → Nat → α → (List α → Prop) → Prop
  | [], _, _, Q => Q []
  | _ :: l, 0, v, Q => Q (v :: l)
  | x :: l, i + 1, v, Q => setK l i v fun l' => Q (x :: l')
def getK {α : Type} : List α → Nat → (α → Prop) → Prop
  | [], _, _ => False
  | x :: _, 0, Q => Q x
  | _ :: l, i + 1, Q => getK l i Q
def someK {α : Type} (o : Option α) (Q : α → Prop) : Prop :=
  match o with
  | some x => Q x
  | none => False
/-- A check on closed data. -/
def ifK (b : Bool) (X : Prop) : Prop :=
  match b with
  | true => X
  | false => False
def brP (b : Bool) (X Y : Prop) : Prop :=
  match b with
  | true => X
  | false => Y
theorem brP_intro {b : Bool} {X Y : Prop} (h1 : b = true → X) (h2 : b = false → Y) : brP b X Y := by
  cases b
  · exact h2 rfl
  · exact h1 rfl
def snocK {α : Type} : List α → α → Nat → (Nat → List α → Prop) → Prop
  | [], v, i, Q => Q i [v]
  | x :: l, v, i, Q => snocK l v (i + 1) fun j l' => Q j (x :: l')
/-- The same value, laid open to its constructors. -/
def lfK (l : Lf) (Q : Lf → Prop) : Prop :=
  match l with
  | .undef => Q .undef
  | .skip => Q .skip
  | .int k x => Q (.int k x)
  | .bool b => Q (.bool b)
  | .str s => Q (.str s)
  | .sl e k l => Q (.sl e k l)
  | .nils => Q .nils
  | .own i => Q (.own i)
  | .ptr i o => Q (.ptr i o)
  | .ept i n z o => Q (.ept i n z o)
  | .rp k x o => Q (.rp k x o)
  | .nilp => Q .nilp
  | .clo f cs => Q (.clo f cs)
  | .mp i => Q (.mp i)
  | .yld l => Q (.yld l)
def lfsK : List Lf → (List Lf → Prop) → Prop
  | [], Q => Q []
  | x :: r, Q => lfK x fun y => lfsK r fun s => Q (y :: s)
def v1K (v : V1) (Q : V1 → Prop) : Prop :=
  match v with
  | .one l => lfK l fun l => Q (.one l)
  | .agg ls => lfsK ls fun ls => Q (.agg ls)
def v1sK : List V1 → (List V1 → Prop) → Prop
  | [], Q => Q []
  | x :: r, Q => v1K x fun y => v1sK r fun s => Q (y :: s)
def vK (v : V) (Q : V → Prop) : Prop :=
  match v with
  | .v x => v1K x fun x => Q (.v x)
  | .tup xs => v1sK xs fun xs => Q (.tup xs)
def vsK : List V → (List V → Prop) → Prop
  | [], Q => Q []
  | x :: r, Q => vK x fun y => vsK r fun s => Q (y :: s)
def obK (o : Ob) (Q : Ob → Prop) : Prop :=
  match o with
  | .box t cs => lfsK cs fun cs => Q (.box t cs)
  | .row e k l => Q (.row e k l)
  | .dead => Q .dead
  | .iter s p => Q (.iter s p)
  | .map l => Q (.map l)
  | .frame u cs => vsK cs fun cs => Q (.frame u cs)
  | .raw g o => Q (.raw g o)
def obsK : List Ob → (List Ob → Prop) → Prop
  | [], Q => Q []
  | x :: r, Q => obK x fun y => obsK r fun s => Q (y :: s)
def stK (st : St) (Q : St → Prop) : Prop :=
  match st with
  | ⟨s, h⟩ => vsK s fun s => obsK h fun h => Q ⟨s, h⟩
/-- n places from off on. -/
def cutL {α : Type} (l : List α) (off n : Nat) : List α := (l.drop off).take n
def putL {α : Type} (l : List α) (off : Nat) (vs : List α) : List α := l.take off ++ vs ++ l.drop (off + vs.length)

def constV : Value → Option V1
  | .int k n => some (.one (.int k n))
  | .bool b => some (.one (.bool b))
  | .string s => some (.one (.str s))
  | .slice none 0 0 => some (.one .nils)
  | .pointer none => some (.one .nilp)
  | _ => some (.one .undef)

section
variable (T : TT)

def evK (st : St) (o : Operand) (Q : V → Prop) : Prop :=
  match o with
  | .tmp t => getK st.slots t Q
  | .const v => someK (constV v) fun x => Q (.v x)
  | _ => False
def ev1 (st : St) (o : Operand) (Q : V1 → Prop) : Prop :=
  evK st o fun v => match v with
    | .v x => Q x
    | .tup _ => False
def evL (st : St) (o : Operand) (Q : Lf → Prop) : Prop :=
  ev1 st o fun v => match v with
    | .one l => Q l
    | .agg _ => False
def evI (st : St) (o : Operand) (Q : IntKind → Int → Prop) : Prop :=
  evL st o fun v => match v with
    | .int k x => Q k x
    | _ => False

/-- The cells of a type at an address, read. -/
def shapeV (i : TI) (cs : List Lf) (Q : V1 → Prop) : Prop :=
  match i.agg with
  | true => Q (.agg (cutL cs 0 i.zero.length))
  | false => match cs with
    | x :: _ => Q (.one x)
    | [] => False
def loadK (st : St) (t : TypeId) (p : Lf) (Q : V1 → Prop) : Prop :=
  someK (tget T t) fun i =>
    match p with
    | .ptr id off => getK st.heap id fun o => match o with
      | .box _ cs => ifK (Nat.ble (off + i.zero.length) cs.length) <| shapeV i (cs.drop off) Q
      | _ => False
    | .ept id n sz off => getK st.heap id fun o => match o with
      | .row _ k l => ifK (Nat.beq sz k.sz && Nat.ble (off + i.zero.length) k.sz) <| shapeV i ((leaves k (getE k l n)).drop off) Q
      | _ => False
    | .rp k x off => ifK (Nat.ble (off + i.zero.length) k.sz) <| shapeV i ((leaves k x).drop off) Q
    | _ => False

/-- Slices of the frame's own, as data that is only read. -/
def borL (h : List Ob) : Lf → Option Lf
  | .own id => match h[id]? with
    | some (.row e k l) => some (.sl e k l)
    | _ => none
  | .ptr _ _ => none
  | .ept .. => none
  | .clo _ _ => none
  | .mp _ => none
  | .undef => none
  | .skip => none
  | l => some l
def borLs (h : List Ob) : List Lf → Option (List Lf)
  | [] => some []
  | x :: r => match borL h x with
    | some y => match borLs h r with
      | some s => some (y :: s)
      | none => none
    | none => none
/-- Cells as data of kind k, nothing left. -/
def deep (h : List Ob) (k : K) (ls : List Lf) : Option k.ty :=
  match borLs h ls with
  | some cs => match unleaf k cs with
    | some (x, []) => some x
    | _ => none
  | none => none
def ownIds : List Lf → List Nat
  | [] => []
  | .own id :: r => id :: ownIds r
  | _ :: r => ownIds r

/-! ### what happens to references -/
/-- A row becomes memory that is only read. -/
def sealL (id : Nat) (e : TypeId) (k : K) (l : List k.ty) : Lf → Lf
  | .own i => if i = id then .sl e k l else .own i
  | .ept i a z b => if i = id then .undef else .ept i a z b
  | x => x
/-- References to a row go. -/
def killL (id : Nat) : Lf → Lf
  | .own i => if i = id then .undef else .own i
  | .ept i a z b => if i = id then .undef else .ept i a z b
  | x => x
def mapV1 (f : Lf → Lf) : V1 → V1
  | .one l => .one (f l)
  | .agg ls => .agg (ls.map f)
def mapV (f : Lf → Lf) : V → V
  | .v x => .v (mapV1 f x)
  | .tup xs => .tup (xs.map (mapV1 f))
def mapOb (f : Lf → Lf) : Ob → Ob
  | .box t cs => .box t (cs.map f)
  | .frame u cs => .frame u (cs.map (mapV f))
  | o => o
def sealSt (id : Nat) (st : St) : Option St :=
  match st.heap[id]? with
  | some (.row e k l) => some ⟨st.slots.map (mapV (sealL id e k l)), (st.heap.map (mapOb (sealL id e k l))).set id .dead⟩
  | _ => none
def sealAll : List Nat → St → St
  | [], st => st
  | id :: r, st => match sealSt id st with
    | some st' => sealAll r st'
    | none => sealAll r st
/-- Sealed, if the flag says so. -/
def sinkSt (b : Bool) (ids : List Nat) (st : St) : St :=
  match b with
  | true => st
  | false => sealAll ids st
def killSt (id : Nat) (o : Ob) (st : St) : St := ⟨st.slots.map (mapV (killL id)), (st.heap.map (mapOb (killL id))).set id o⟩

/-! ### what is still in use, in one order -/
def idsL : Lf → List Nat
  | .own i => [i]
  | .ptr i _ => [i]
  | .mp i => [i]
  | .ept i .. => [i]
  | .clo _ cs => cs.filterMap fun c => match c with | .id n => some n | _ => none
  | _ => []
def idsV1 (v : V1) : List Nat := v.ls.flatMap idsL
def idsV : V → List Nat
  | .v x => idsV1 x
  | .tup xs => xs.flatMap idsV1
def idsOb : Ob → List Nat
  | .box _ cs => cs.flatMap idsL
  | .frame _ cs => cs.flatMap idsV
  | _ => []
def addNew : List Nat → List Nat → List Nat
  | acc, [] => acc
  | acc, x :: r => if acc.contains x then addNew acc r else addNew (acc ++ [x]) r
def reach (h : List Ob) : Nat → List Nat → List Nat
  | 0, acc => acc
  | n + 1, acc => reach h n (addNew acc (acc.flatMap fun i => match h[i]? with | some o => idsOb o | none => []))
def place : List Nat → Nat → Option Nat
  | [], _ => none
  | x :: r, i => if x = i then some 0 else (place r i).map (· + 1)
def capR (L : List Nat) : Cap → Option Cap
  | .id n => (place L n).map .id
  | c => some c
def renL (L : List Nat) : Lf → Lf
  | .own i => match place L i with | some j => .own j | none => .undef
  | .mp i => match place L i with | some j => .mp j | none => .undef
  | .ptr i o => match place L i with | some j => .ptr j o | none => .undef
  | .ept i a z o => match place L i with | some j => .ept j a z o | none => .undef
  | .clo f cs => match cs.mapM (capR L) with | some ds => .clo f ds | none => .undef
  | x => x
def nodupB : List Nat → Bool
  | [] => true
  | x :: r => !r.contains x && nodupB r
def keepFrom (keep : List Nat) : Nat → List V → List V
  | _, [] => []
  | n, x :: r => (if keep.contains n then x else .v (.one .undef)) :: keepFrom keep (n + 1) r
def renHeap (L : List Nat) (h : List Ob) : List Nat → Option (List Ob)
  | [] => some []
  | i :: r => match h[i]? with
    | some o => match renHeap L h r with
      | some s => some (mapOb (renL L) o :: s)
      | none => none
    | none => none
/-- Only the named temporaries stay, and what they lead to, numbered anew. -/
def normK (keep : List Nat) (st : St) (Q : St → Prop) : Prop :=
  let s := keepFrom keep 0 st.slots
  let L := reach st.heap 2 (addNew [] (s.flatMap idsV))
  ifK (nodupB L) (someK (renHeap L st.heap L) fun h => stK ⟨s.map (mapV (renL L)), h⟩ Q)

/-! ### calls -/
/-- What a callee does: arguments, the caller's objects that are handed over; results, objects behind the call. -/
abbrev PT := List V1 → List Ob → (List V1 → List Ob → Prop) → Prop
abbrev Env := List (FuncId × PT)
def elook : Env → FuncId → Option PT
  | [], _ => none
  | (f, p) :: r, g => if f = g then some p else elook r g
/-- An argument as data that is only read: in the type's own form where the type is deep. -/
def capA : Cap → Option Lf
  | .imm k x => some (.rp k x 0)
  | .id _ => none
def capB (T : TT) (h : List Ob) : Cap → Option Cap
  | .imm k x => some (.imm k x)
  | .id n => match h[n]? with
    | some (.box t cs) => match tget T t with
      | some i => match i.kd with
        | some k => match deep h k cs with
          | some x => some (.imm k x)
          | none => none
        | none => none
      | none => none
    | _ => none
def argD (T : TT) (h : List Ob) (t : TypeId) (v : V1) : Option V1 :=
  match tget T t with
  | some i => match i.kd with
    | some k => match deep h k v.ls with
      | some x => match v with
        | .agg _ => some (.agg (leaves k x))
        | .one _ => match leaves k x with
          | [y] => some (.one y)
          | _ => none
      | none => none
    | none => none
  | none => none
def argV (T : TT) (h : List Ob) (t : TypeId) (v : V1) : Option V1 :=
  match v with
  | .one (.clo f cs) => match cs.mapM (capB T h) with
    | some ds => some (.one (.clo f ds))
    | none => none
  | .one (.rp k x o) => some (.one (.rp k x o))
  | v => argD T h t v
def argsK (T : TT) (st : St) : List Operand → List TypeId → (List V1 → List Nat → Prop) → Prop
  | [], _, Q => Q [] []
  | o :: r, t :: ts, Q => ev1 st o fun v => someK (argV T st.heap t v) fun x => argsK T st r ts fun xs ids => Q (x :: xs) (ownIds v.ls ++ ids)
  | _ :: _, [], _ => False
def flatL : Lf → Bool
  | .int _ _ => true
  | .bool _ => true
  | .str _ => true
  | .own _ => true
  | .ptr _ _ => true
  | .nils => true
  | _ => false
def flatOb : Ob → Bool
  | .row _ k _ => k.flat
  | .dead => true
  | .box _ cs => cs.all flatL
  | _ => false
def shiftC (n : Nat) : Cap → Cap
  | .id i => .id (i + n)
  | c => c
def shiftL (n : Nat) : Lf → Lf
  | .own i => .own (i + n)
  | .mp i => .mp (i + n)
  | .ptr i o => .ptr (i + n) o
  | .ept i a z o => .ept (i + n) a z o
  | .clo f cs => .clo f (cs.map (shiftC n))
  | x => x
/-- The objects that a call made, behind those that were there; what shares memory with an argument is sealed. -/
def backK (st : St) (ids : List Nat) (caps : Bool) (res : List V1) (h' : List Ob) (Q : V → St → Prop) : Prop :=
  let fl := res.all (fun v => v.ls.all flatL) && h'.all flatOb
  ifK (fl || !caps) <|
  v1sK (res.map (mapV1 (shiftL st.heap.length))) fun rs =>
  stK (sinkSt fl ids st) fun st1 => stK ⟨st1.slots, st1.heap ++ h'.map (mapOb (shiftL st.heap.length))⟩ fun st2 =>
  match rs with
  | [x] => Q (.v x) st2
  | [] => Q (.v (.one .undef)) st2
  | xs => Q (.tup xs) st2
def isClo : Operand → St → Bool
  | .tmp t, st => match st.slots[t]? with
    | some (.v (.one (.clo _ _))) => true
    | _ => false
  | _, _ => false

section
variable (T : TT) (E : Env)
def callK (st : St) (c : Call) (Q : V → St → Prop) : Prop :=
  match c.callee with
  | .value (.func f) => someK (elook E f) fun sp => argsK T st c.args.toList c.argTypes.toList fun xs ids =>
      sp xs [] fun res h' => backK st ids (c.args.toList.any (isClo · st)) res h' Q
  | .value (.tmp t) => getK st.slots t fun v => match v with
    | .v (.one (.clo f cs)) => someK (elook E f) fun sp => argsK T st c.args.toList c.argTypes.toList fun xs ids =>
        someK (cs.mapM (capB T st.heap)) fun ds => someK (ds.mapM capA) fun ps =>
          sp (xs ++ ps.map .one) [] fun res h' => backK st ids true res h' Q
    | _ => False
  | _ => False

def cmpI : BinOp → Int → Int → Option Bool
  | .eql, x, y => some (x == y)
  | .neq, x, y => some (x != y)
  | .lss, x, y => some (decide (x < y))
  | .leq, x, y => some (decide (x ≤ y))
  | .gtr, x, y => some (decide (x > y))
  | .geq, x, y => some (decide (x ≥ y))
  | _, _, _ => none
def isBoolT (T : TT) (t : TypeId) : Bool :=
  match tget T t with
  | some i => match i.kd with
    | some .bool => true
    | _ => false
  | none => false
def binK (bt sl : Bool) (o : BinOp) (a b : Lf) (Q : Lf → Prop) : Prop :=
  match a, b with
  | .int k x, .int k' y => ifK (decide (k = k')) <| match o with
    | .add => Q (.int k (k.wrap (x + y)))
    | .sub => Q (.int k (k.wrap (x - y)))
    | .mul => Q (.int k (k.wrap (x * y)))
    | .quo => y ≠ 0 ∧ Q (.int k (k.wrap (x.tdiv y)))
    | o => someK (cmpI o x y) fun r => Q (.bool r)
  | .str x, .str y => match o with
    | .eql => Q (.bool (x.toList == y.toList))
    | .neq => Q (.bool (x.toList != y.toList))
    | _ => False
  | .bool x, .bool y => ifK bt <| match o with
    | .eql => Q (.bool (x == y))
    | .neq => Q (.bool (x != y))
    | _ => False
  | .sl _ _ l, .nils => ifK sl <| match o with       -- an empty one may be nil
    | .eql => ∀ b : Bool, (b = true → l = []) → Q (.bool b)
    | .neq => ∀ b : Bool, (b = true → l = []) → Q (.bool (!b))
    | _ => False
  | _, _ => False
def bound (x : Int) (n : Nat) : Prop := 0 ≤ x ∧ x < (n : Int)
/-- One place after the other. -/
def idxB (x : Int) (Q : Nat → Prop) : Nat → Nat → Prop
  | 0, _ => True
  | n + 1, j => brP (decide (x = (j : Int))) (Q j) (idxB x Q n (j + 1))
def optI (st : St) (o : Option Operand) (d : Int) (Q : Int → Prop) : Prop :=
  match o with
  | none => Q d
  | some x => evI st x fun _ y => Q y
/-- Every cell of it is known to be the value of one cell. -/
def isDef : V1 → Bool
  | .one .undef => false
  | .one .skip => false
  | .one _ => true
  | .agg ls => ls.all fun | .skip => false | _ => true
def partsK (st : St) : List (Nat × Operand) → (List (Nat × V1) → Prop) → Prop
  | [], Q => Q []
  | (i, o) :: r, Q => ev1 st o fun v => partsK st r fun ps => Q ((i, v) :: ps)
def fillL (fs : List (Nat × Nat × Bool)) : List (Nat × V1) → List Lf → Option (List Lf)
  | [], cs => some cs
  | (i, v) :: r, cs => match fs[i]? with
    | some (off, n, _) => if isDef v = true ∧ v.ls.length = n ∧ off + n ≤ cs.length then fillL fs r (putL cs off v.ls) else none
    | none => none
def fillR (h : List Ob) (k : K) : List (Nat × V1) → List k.ty → Option (List k.ty)
  | [], l => some l
  | (i, v) :: r, l => match deep h k v.ls with
    | some x => if i < l.length then fillR h k r (l.set i x) else none
    | none => none
def partIds : List (Nat × V1) → List Nat
  | [] => []
  | (_, v) :: r => ownIds v.ls ++ partIds r
/-- A new object, behind the others. -/
def newK (st : St) (o : Ob) (Q : Nat → St → Prop) : Prop :=
  match st with
  | ⟨s, h⟩ => obK o fun o => snocK h o 0 fun i h => Q i ⟨s, h⟩
def lenOf (h : List Ob) : Lf → Option Int
  | .sl _ _ l => some (l.length : Int)
  | .own id => match h[id]? with
    | some (.row _ _ l) => some (l.length : Int)
    | _ => none
  | .nils => some 0
  | .str s => some (s.size : Int)
  | _ => none
def lenTy (T : TT) (t : TypeId) : Lf → Bool
  | .str _ => match tget T t with
    | some i => match i.kd with
      | some .str => true
      | _ => false
    | none => false
  | _ => (skind T t).isSome
/-- The bytes that a row of n elements takes. -/
def room (T : TT) (e : TypeId) (n : Nat) : Prop := someK (tget T e) fun i => n * i.bytes ≤ 140737488355328

def storeK (st : St) (t : TypeId) (p : Lf) (v : V1) (Q : St → Prop) : Prop :=
  someK (tget T t) fun i => ifK (isDef v && Nat.beq v.ls.length i.zero.length) <|
    match p with
    | .ptr id off => getK st.heap id fun o => match o with
      | .box bt cs => ifK (Nat.ble (off + v.ls.length) cs.length) <| lfsK (putL cs off v.ls) fun cs => setK st.heap id (.box bt cs) fun h => match st with
        | ⟨s, _⟩ => Q ⟨s, h⟩
      | _ => False
    | .ept id n sz off => getK st.heap id fun o => match o with
      | .row e k l => let ls := putL (leaves k (getE k l n)) off v.ls
          ifK (Nat.beq sz k.sz && Nat.ble (off + v.ls.length) k.sz && (k.flat || !(ownIds ls).contains id)) <|
          someK (deep st.heap k ls) fun x =>
            stK (sinkSt k.flat (ownIds ls) st) fun st1 => match st1 with
              | ⟨s, h⟩ => setK h id (.row e k (l.set n.toNat x)) fun h => Q ⟨s, h⟩
      | _ => False
    | _ => False

def appendK (st : St) (s x : Lf) (t : TypeId) (Q : V → St → Prop) : Prop :=
  someK (skind T t) fun ek => let e := ek.1; let k := ek.2;
    someK (deep st.heap (.slice e k) [x]) fun l2 =>
      match s with
      | .own id => getK st.heap id fun o => match o with
        | .row e' k' l => ifK (k.flat || !(ownIds [x]).contains id) <| if he : e' = e ∧ k' = k then
              room T e (l.length + l2.length) ∧
              stK (killSt id (.row e k ((he.2 ▸ l : List k.ty) ++ l2)) (sinkSt k.flat (ownIds [x]) st)) fun st => Q (.v (.one (.own id))) st
            else False
        | _ => False
      | .nils => room T e l2.length ∧
          stK (sinkSt k.flat (ownIds [x]) st) fun st => newK st (.row e k l2) fun id st2 => Q (.v (.one (.own id))) st2
      | _ => False

/-- copy, of flat data, into a row of the frame's own. -/
def copyK (st : St) (d x : Lf) (t : TypeId) (Q : V → St → Prop) : Prop :=
  someK (skind T t) fun ek => let e := ek.1; let k := ek.2;
    ifK k.flat <| someK (deep st.heap (.slice e k) [x]) fun l2 =>
      match d with
      | .own id => getK st.heap id fun o => match o with
        | .row e' k' l => if he : e' = e ∧ k' = k then
              setK st.heap id (.row e k (l2.take l.length ++ ((he.2 ▸ l : List k.ty).drop l2.length))) fun h => match st with
                | ⟨s, _⟩ => Q (.v (.one (.int .i64 (min l2.length l.length : Nat)))) ⟨s, h⟩
            else False
        | _ => False
      | _ => False

/-- A byte of a string, as a number. -/
def byteAt (s : ByteArray) (i : Nat) : Int := ((s.data.getD i 0).toNat : Int)
/-- Whether it is below 128. -/
def lowB (s : ByteArray) (i : Nat) : Bool := Nat.blt (s.data.getD i 0).toNat 128
def isStrT (T : TT) (t : TypeId) : Bool :=
  match tget T t with
  | some i => match i.kd with
    | some .str => true
    | _ => false
  | none => false
def isMapT (T : TT) (t : TypeId) : Bool :=
  match tget T t with
  | some i => i.kv.isSome
  | none => false
/-- A map's entry. -/
def mget : List (ByteArray × Bool) → ByteArray → Bool
  | [], _ => false
  | (k, v) :: r, s => bif s == k then v else mget r s
def mset : List (ByteArray × Bool) → ByteArray → Bool → List (ByteArray × Bool)
  | [], s, b => [(s, b)]
  | (k, v) :: r, s, b => bif s == k then (s, b) :: r else (k, v) :: mset r s b
def mapPutK (st : St) (t : TypeId) (m k x : Operand) (Q : V → St → Prop) : Prop :=
  evL st m fun l => evL st k fun k => evL st x fun x => match l, k, x with
    | .mp id, .str s, .bool b => getK st.heap id fun ob => match ob with
      | .map l => ifK (isMapT T t) <| setK st.heap id (.map (mset l s b)) fun h => match st with
        | ⟨sl, _⟩ => Q (.v (.one .skip)) ⟨sl, h⟩
      | _ => False
    | _, _, _ => False

/-- A row of the frame's own without its head. -/
def sliceOwnK (st : St) (t : TypeId) (x : Operand) (c : Value) (Q : V → St → Prop) : Prop :=
  evL st x fun s => match s, c with
    | .own id, .int _ a => getK st.heap id fun ob => match ob with
      | .row e k l => someK (skind T t) fun ek => ifK (Nat.beq ek.2.sz k.sz) <| (0 ≤ a ∧ a ≤ (l.length : Int) ∧ 0 < l.length) ∧
          stK (killSt id (.row e k (l.drop a.toNat)) st) fun st => Q (.v (.one (.own id))) st
      | _ => False
    | _, _ => False

def sliceK (st : St) (t : TypeId) (x : Operand) (lo hi : Option Operand) (Q : V → St → Prop) : Prop :=
  evL st x fun s => match s with
    | .sl e k l => someK (skind T t) fun ek => ifK (Nat.beq ek.2.sz k.sz) <| optI st lo 0 fun a => optI st hi (l.length : Int) fun b => (0 ≤ a ∧ a ≤ b ∧ b ≤ (l.length : Int)) ∧ Q (.v (.one (.sl e k ((l.take b.toNat).drop a.toNat)))) st
    | _ => False
def aop (o : Oper) (st : St) (Q : V → St → Prop) : Prop :=
  match o.op with
  | .move x => evK st x fun v => Q v st
  | .assign x => evK st x fun v => match v with
    | .v (.one .nils) => match skind T o.type with
      | some (e, k) => newK st (.row e k []) fun id st => Q (.v (.one (.own id))) st
      | none => Q v st
    | v => Q v st
  | .pick c a b => evL st c fun l => match l with
    | .bool d => brP d (evK st a fun v => Q v st) (evK st b fun v => Q v st)
    | _ => False
  | .alloc t => someK (tget T t) fun i => newK st (.box t i.zero) fun id st => Q (.v (.one (.ptr id 0))) st
  | .box t x => ev1 st x fun v => ifK (isDef v) <| newK st (.box t v.ls) fun id st => Q (.v (.one (.ptr id 0))) st
  | .load t p => evL st p fun p => loadK T st t p fun v => Q (.v v) st
  | .store t p x => evL st p fun p => ev1 st x fun v => storeK T st t p v fun st => Q (.v (.one .skip)) st
  | .fieldAddr t p j => evL st p fun p => someK (tget T t) fun i => ifK (Nat.beq i.len 0) <| getK i.fields j fun f => match p with
    | .ptr id off => Q (.v (.one (.ptr id (off + f.1)))) st
    | .ept id n z off => Q (.v (.one (.ept id n z (off + f.1)))) st
    | .rp k x off => Q (.v (.one (.rp k x (off + f.1)))) st
    | _ => False
  | .field t x j => ev1 st x fun v => someK (tget T t) fun i => ifK (Nat.beq i.len 0) <| getK i.fields j fun f => match v with
    | .agg cs => ifK (Nat.ble (f.1 + f.2.1) cs.length) <| match f.2.2 with
      | true => Q (.v (.agg (cutL cs f.1 f.2.1))) st
      | false => match cs.drop f.1 with
        | y :: _ => Q (.v (.one y)) st
        | [] => False
    | _ => False
  | .indexAddr t s x => evL st s fun s => evI st x fun _ n => match s with
    | .sl _ k l => someK (skind T t) fun ek => ifK (Nat.beq ek.2.sz k.sz) <| bound n l.length ∧ Q (.v (.one (.rp k (getE k l n) 0))) st
    | .own id => getK st.heap id fun o => match o with
      | .row _ k l => someK (skind T t) fun ek => ifK (Nat.beq ek.2.sz k.sz) <| bound n l.length ∧ Q (.v (.one (.ept id n k.sz 0))) st
      | _ => False
    | .nils => False
    | .ptr id off => someK (tget T t) fun i => someK (tget T i.elem) fun ie => bound n i.len ∧ idxB n (fun m => Q (.v (.one (.ptr id (off + m * ie.zero.length)))) st) i.len 0
    | _ => False
  | .index t x y => ev1 st x fun v => evI st y fun _ n => someK (tget T t) fun i => match v with
    | .one (.str s) => ifK (isStrT T t) <| bound n s.size ∧ Q (.v (.one (.int .u8 (byteAt s n.toNat)))) st
    | .agg cs => someK (tget T i.elem) fun ie => ifK (cs.length == i.len * ie.zero.length) <| bound n i.len ∧
        idxB n (fun j => match ie.agg with
          | true => Q (.v (.agg (cutL cs (j * ie.zero.length) ie.zero.length))) st
          | false => match cs.drop (j * ie.zero.length) with
            | y :: _ => Q (.v (.one y)) st
            | [] => False) i.len 0
    | _ => False
  | .binOp b t x y _ => evL st x fun x => evL st y fun y => binK (isBoolT T t) (skind T t).isSome b x y fun r => Q (.v (.one r)) st
  | .unOp .not _ x => evL st x fun x => match x with
    | .bool b => Q (.v (.one (.bool (!b)))) st
    | _ => False
  | .extract x j => evK st x fun v => match v with
    | .tup xs => getK xs j fun x => Q (.v x) st
    | _ => False
  | .build t ps => someK (tget T t) fun i => partsK st ps.toList fun vs => someK (fillL i.fields vs i.zero) fun cs => ifK i.agg <| Q (.v (.agg cs)) st
  | .buildSlice t n ps => someK (skind T t) fun ek => partsK st ps.toList fun vs =>
      someK (fillR st.heap ek.2 vs (List.replicate n ek.2.dflt)) fun l =>
        stK (sinkSt ek.2.flat (partIds vs) st) fun st => ifK (Nat.ble (n * ek.2.sz) 16777216) <| newK st (.row ek.1 ek.2 l) fun id st => Q (.v (.one (.own id))) st
  | .makeSlice t n c => someK (skind T t) fun ek => evI st n fun _ n => evI st c fun _ c =>
      (0 ≤ n ∧ n ≤ c ∧ c ≤ 17592186044416) ∧ room T ek.1 c.toNat ∧ newK st (.row ek.1 ek.2 (List.replicate n.toNat ek.2.dflt)) fun id st => Q (.v (.one (.own id))) st
  | .slice t x (some (.const c)) none none => sliceOwnK T st t x c Q
  | .slice t x lo hi none => sliceK T st t x lo hi Q
  | .makeFunc (.func f) first caps => ifK (first.size == 0) <| someK (caps.toList.mapM fun c => match c with
      | .tmp t => match st.slots[t]? with
        | some (.v (.one (.ptr id 0))) => some (Cap.id id)
        | some (.v (.one (.rp k x 0))) => some (Cap.imm k x)
        | _ => none
      | _ => none) fun cs => Q (.v (.one (.clo f cs))) st
  | .nilCheck x => evL st x fun l => match l with
    | .ptr id off => Q (.v (.one (.ptr id off))) st
    | _ => False
  | .range t x => evL st x fun l => match l with
    | .str s => ifK (isStrT T t) <| newK st (.iter s 0) fun id st => Q (.v (.one (.ptr id 0))) st
    | _ => False
  | .next x true => evL st x fun p => match p with
    | .ptr id 0 => getK st.heap id fun ob => match ob with
      | .iter s pos => brP (decide (pos < s.size))
          (brP (lowB s pos)
            (setK st.heap id (.iter s (pos + 1)) fun h => match st with
              | ⟨sl, _⟩ => Q (.tup [.one (.bool true), .one (.int .i64 pos), .one (.int .i32 (byteAt s pos))]) ⟨sl, h⟩)
            (∀ r : Int, 128 ≤ r → ∀ m : Nat, setK st.heap id (.iter s (pos + m)) fun h => match st with
              | ⟨sl, _⟩ => Q (.tup [.one (.bool true), .one (.int .i64 pos), .one (.int .i32 r)]) ⟨sl, h⟩))
          (Q (.tup [.one (.bool false)]) st)
      | _ => False
    | _ => False
  | .makeMap t none => ifK (isMapT T t) <| newK st (.map []) fun id st => Q (.v (.one (.mp id))) st
  | .insert t m k x => mapPutK T st t m k x Q
  | .mapUpdate t m k x => mapPutK T st t m k x Q
  | .lookup t x k false => evL st x fun l => evL st k fun k => match l, k with
    | .mp id, .str s => getK st.heap id fun ob => match ob with
      | .map l => ifK (isMapT T t) <| Q (.v (.one (.bool (mget l s)))) st
      | _ => False
    | _, _ => False
  | .call c => match c.callee with
    | .builtin .len => match c.args.toList, c.argTypes.toList with
      | [x], t :: _ => evL st x fun x => ifK (lenTy T t x) <| someK (lenOf st.heap x) fun n => Q (.v (.one (.int .i64 n))) st
      | _, _ => False
    | .builtin .append => match c.args.toList, c.argTypes.toList with
      | [s, x], [t, t'] => ifK (t == t') <| evL st s fun s => evL st x fun x => appendK T st s x t Q
      | _, _ => False
    | .builtin .copy => match c.args.toList, c.argTypes.toList with
      | [d, x], [t, t'] => ifK (t == t') <| evL st d fun d => evL st x fun x => copyK T st d x t Q
      | _, _ => False
    | _ => callK T E st c Q
  | _ => False

/-! ### code -/
/-- The parts of a code, to name them. -/
def _root_.Go.Code.a : Code → Code
  | .seq x _ => x
  | .cond _ x _ => x
  | .block _ x => x
  | .loop x => x
  | x => x
def _root_.Go.Code.b : Code → Code
  | .seq _ y => y
  | .cond _ _ y => y
  | x => x
def _root_.Go.Func.code (f : Func) : Code := f.body.getD .skip
inductive Ex where
  | normal | exit (id : Nat) | ret
def putK (st : St) (d : Option Tmp) (v : V) (Q : St → Prop) : Prop :=
  match d with
  | none => Q st
  | some t => match st with
    | ⟨s, h⟩ => vK v fun v => setK s t v fun s => Q ⟨s, h⟩
def dstOf (all : List Oper) (g : Nat) : Option Tmp := (all[g]?).bind (·.dst)
def runK (all : List Oper) (o : Oper) (st : St) (Q : St → Prop) : Prop :=
  match o.guard with
  | none => aop T E o st fun v st => putK st o.dst v Q
  | some (g, want) => someK (dstOf all g) fun t => getK st.slots t fun v => match v with
    | .v (.one (.bool b)) =>
      brP b
        (putK st (some t) (.v (.one (.bool true))) fun st => match want with
          | true => aop T E o st fun v st => putK st o.dst v Q
          | false => putK st o.dst (.v (.one .skip)) Q)
        (putK st (some t) (.v (.one (.bool false))) fun st => match want with
          | false => aop T E o st fun v st => putK st o.dst v Q
          | true => putK st o.dst (.v (.one .skip)) Q)
    | .v (.one .skip) => putK st o.dst (.v (.one .skip)) Q
    | _ => False
def opsK (all : List Oper) : List Oper → St → (St → Prop) → Prop
  | [], st, Q => Q st
  | o :: r, st, Q => runK T E all o st fun st => opsK all r st Q

/-! #### a region that draws its order -/
inductive Cls where
  | pure | load | act
  deriving DecidableEq
def clsOf (o : Oper) : Cls :=
  match o.op with
  | .slice _ _ (some (.const _)) none none => .act
  | .move _ | .pick .. | .fieldAddr .. | .field .. | .indexAddr .. | .index .. | .binOp .. | .unOp .. | .extract .. | .build .. | .slice .. | .makeFunc .. => .pure
  | .assign _ => .act
  | .load .. => .load
  | .call c => match c.callee with
    | .builtin .len => .pure
    | _ => .act
  | _ => .act
def isLoad (o : Oper) : Bool := match clsOf o with | .load => true | _ => false
def isAct (o : Oper) : Bool := match clsOf o with | .act => true | _ => false
/-- An operation that leaves every block that stands as it is. -/
def tame (o : Oper) : Bool :=
  match o.op with
  | .store .. => false
  | .next .. => false
  | .insert .. => false
  | .mapUpdate .. => false
  | .call c => match c.callee with
    | .builtin .append => false
    | .builtin .copy => false
    | _ => true
  | _ => true
/-- An operation that may go first: it only reads, and what may go before it neither touches its temporaries nor, if it loads, what stands in memory. -/
def firstOf (ops : Array Oper) (listed : Array Bool) (i : Nat) : Bool :=
  match ops[i]? with
  | some o => !isAct o && Region.free .any ops listed i && (!isLoad o || (List.range ops.size).all fun j => j == i || listed.getD j true || match ops[j]? with
    | some oj => tame oj || oj.after.any fun e => Region.binds .any e && e.on == i
    | none => true)
  | none => false
def allK : List Nat → (Nat → Prop) → Prop
  | [], _ => True
  | [i], F => F i
  | i :: j :: r, F => F i ∧ allK (j :: r) F
/-- One that may go first; else whichever of those that are ready. -/
def ordK (ops : Array Oper) (Q : St → Prop) : Nat → Array Bool → St → Prop
  | 0, listed, st =>
    match Region.ready .any ops listed with
    | [] => Q st
    | _ => False
  | n + 1, listed, st =>
    match Region.ready .any ops listed with
    | [] => Q st
    | i :: r => match (i :: r).find? (firstOf ops listed) with
      | some i => someK ops[i]? fun o => runK T E ops.toList o st fun st => ordK ops Q n (listed.setIfInBounds i true) st
      | none => allK (i :: r) fun i => someK ops[i]? fun o => runK T E ops.toList o st fun st => ordK ops Q n (listed.setIfInBounds i true) st

/-- What stays at a loop's head, and behind it, by the block that holds it. -/
abbrev Keep := List Nat × List Nat × List Nat
abbrev Ann := List (Nat × Keep)
def annOf : Ann → Nat → Option Keep
  | [], _ => none
  | (b, l) :: r, c => if b = c then some l else annOf r c
def loopP (body : St → (Ex → St → Prop) → Prop) (keep : Keep) : Nat → St → (Ex → St → Prop) → Prop
  | 0, _, _ => False
  | n + 1, st, Q => body st fun ex st' => match ex with
    | .normal => normK keep.1 st' fun st'' => loopP body keep n st'' Q
    | .exit i => normK keep.2.1 st' fun st'' => Q (.exit i) st''
    | .ret => normK keep.2.2 st' fun st'' => Q .ret st''
/-- What goes on behind a round. -/
def loopC (body : St → (Ex → St → Prop) → Prop) (keep : Keep) (n : Nat) (Q : Ex → St → Prop) : Ex → St → Prop := fun ex st' =>
  match ex with
  | .normal => normK keep.1 st' fun st'' => loopP body keep n st'' Q
  | .exit i => normK keep.2.1 st' fun st'' => Q (.exit i) st''
  | .ret => normK keep.2.2 st' fun st'' => Q .ret st''
theorem loopP_succ {body : St → (Ex → St → Prop) → Prop} {keep : Keep} {n : Nat} {st : St} {Q : Ex → St → Prop}
    (h : body st (loopC body keep n Q)) : loopP body keep (n + 1) st Q := h
/-- What goes on behind the first of two codes; behind a block. -/
def seqC (wb : St → (Ex → St → Prop) → Prop) (Q : Ex → St → Prop) : Ex → St → Prop := fun ex st =>
  match ex with
  | .normal => wb st Q
  | .exit i => Q (.exit i) st
  | .ret => Q .ret st
def blkC (id : Nat) (Q : Ex → St → Prop) : Ex → St → Prop := fun ex st =>
  match ex with
  | .normal => Q .normal st
  | .exit i => if i = id then Q .normal st else Q (.exit i) st
  | .ret => Q .ret st
def awp (A : Ann) : Code → Nat → St → (Ex → St → Prop) → Prop
  | .skip, _, st, Q => Q .normal st
  | .region _ ops false, _, st, Q => opsK T E ops.toList ops.toList st fun st => Q .normal st
  | .region _ ops true, _, st, Q => ifK (Region.noSelect ops) <| ordK T E ops (fun st => Q .normal st) ops.size (Array.replicate ops.size false) st
  | .seq a b, c, st, Q => awp A a c st (seqC (awp A b c) Q)
  | .cond (.tmp t) x y, c, st, Q => getK st.slots t fun v => match v with
    | .v (.one (.bool b)) => brP b (putK st (some t) (.v (.one (.bool true))) fun st => awp A x c st Q) (putK st (some t) (.v (.one (.bool false))) fun st => awp A y c st Q)
    | _ => False
  | .block id x, _, st, Q => awp A x id st (blkC id Q)
  | .loop x, c, st, Q => someK (annOf A c) fun keep => ∃ n, normK keep.1 st fun st => loopP (awp A x c) keep n st Q
  | .exit id, _, st, Q => Q (.exit id) st
  | .ret, _, st, Q => Q .ret st
  | _, _, _, _ => False


def resK (st : St) : List ResultVar → (List V1 → Prop) → Prop
  | [], Q => Q []
  | .tmp t :: r, Q => ev1 st (.tmp t) fun v => resK st r fun vs => Q (v :: vs)
  | .cell p t :: r, Q => evL st (.tmp p) fun l => loadK T st t l fun v => resK st r fun vs => Q (v :: vs)
/-- Results, and what they lead to. -/
def exportK (n : Nat) (st : St) (vs : List V1) (Q : List V1 → List Ob → Prop) : Prop :=
  let L := reach st.heap 2 (addNew (List.range n) (vs.flatMap idsV1))
  ifK (nodupB L) <| someK (renHeap L st.heap L) fun h => v1sK (vs.map (mapV1 (renL L))) fun vs => obsK h fun h => Q vs h
/-- What goes on behind a body. -/
def topC (fn : Func) (n : Nat) (Q : List V1 → List Ob → Prop) : Ex → St → Prop := fun ex st =>
  match ex with
  | .exit _ => False
  | _ => resK T st fn.results.toList fun vs => exportK n st vs Q
def afun (A : Ann) (fn : Func) : PT := fun args h Q =>
  someK fn.body fun c => ifK (Nat.ble args.length fn.ntmps) <|
    stK ⟨args.map .v ++ List.replicate (fn.ntmps - args.length) (.v (.one .undef)), h⟩ fun st => awp T E A c 0 st (topC T fn h.length Q)
/-- A temporary or a heap, by what is known of it. -/
def spl : Nat → Nat → List (Nat × V) → List V
  | 0, _, _ => []
  | n + 1, i, l => ((l.find? (·.1 == i)).map (·.2)).getD (.v (.one .undef)) :: spl n (i + 1) l
def sp (n : Nat) (l : List (Nat × V)) (h : List Ob) : St := ⟨spl n 0 l, h⟩
theorem kc {A B : Prop} (e : A = B) (h : A) : B := e ▸ h
end
end
end Go.AM
