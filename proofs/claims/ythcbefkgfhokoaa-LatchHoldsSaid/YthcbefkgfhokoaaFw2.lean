import Derived.Test.YthcbefkgfhokoaaFw1
import Derived.WalkKit
import Derived.Laws.Small
import Derived.Laws.StructEq
import Derived.Laws.Tables
import Derived.Laws.Cells
import Derived.Laws.Slices
import Derived.Laws.Build
import Derived.Laws.Entries
/- A plain language beside the model's operations: what is known by the types is resolved; its meaning; that it is the model's. -/
namespace Go.Dv
open Go

abbrev PH := Nat → Option Obj
def hw (w : World) : PH := fun b => w.heap[b]?
abbrev Env := List (Nat × Value)
def Env.get : Env → Nat → Option Value
  | [], _ => none
  | (k, v) :: r, t => bif Nat.beq k t then some v else Env.get r t
def ev (e : Env) : Operand → Option Value
  | .tmp t => e.get t
  | .const v => some v
  | .global g => some (.pointer (some ⟨g, 0, none⟩))
  | .func f => some (.func (.func f) #[] #[])
def evs (e : Env) : List Operand → Option (List Value)
  | [] => some []
  | x :: xs => match ev e x, evs e xs with
    | some v, some vs => some (v :: vs)
    | _, _ => none
def Ag (n : Nat) (e : Env) (a : Act) : Prop := a.defers = [] ∧ n ≤ a.tmps.size ∧ ∀ t v, e.get t = some v → a.tmps[t]? = some v

inductive CK where
  | int (k : IntKind) | str | bool
  deriving DecidableEq, Repr

inductive MX where
  | mv (x : Operand)
  | pick (c a b : Operand)
  | nz (x : Operand)
  | bin (op : BinOp) (x y : Operand)
  | cat (x y : Operand)
  | eqn (k : Nat) (neg : Bool) (x y : Operand)
  | eqb (neg : Bool) (x y : Operand)
  | eqs (neg : Bool) (ks : List CK) (x y : Operand)
  | un (op : UnOp) (x : Operand)
  | cvi (k : IntKind) (x : Operand)
  | fa (off : Nat) (x : Operand)
  | ia (sz : Nat) (x i : Operand)
  | ixs (x i : Operand)
  | fl (off : Nat) (n : Option Nat) (x : Operand)
  | bld (zero : List Value) (parts : List (Nat × Nat × Operand))
  | ext (x : Operand) (i : Nat)
  | mf (fn : Fn) (first captured : List Operand)
  | len (x : Operand)
  | slen (x : Operand)
  | slc (sz : Nat) (x : Operand) (lo hi : Option Operand)
  | sls (x : Operand) (lo hi : Option Operand)
  | mm (isMax : Bool) (x y : Operand)
  | ld (n : Option Nat) (x : Operand)
  | st (n : Nat) (x v : Operand)
  | bx (T : TypeId) (n : Nat) (v : Operand)
  | al (T : TypeId) (cs : List Value)
  | cl (f : FuncId) (args : List Operand)
  | cv (f : Operand) (args : List Operand)
  | raw (o : Oper)

def slt (x y : ByteArray) : Bool := Op.bytesLess x.toList y.toList

def intBin (op : BinOp) (k : IntKind) (a b : Int) : Option Value :=
  match op with
  | .add => some (.int k (k.wrap (a + b)))
  | .sub => some (.int k (k.wrap (a - b)))
  | .mul => some (.int k (k.wrap (a * b)))
  | .quo => if b = 0 then none else some (.int k (k.wrap (a.tdiv b)))
  | .rem => if b = 0 then none else some (.int k (a.tmod b))
  | .eql => some (.bool (decide (a = b)))
  | .neq => some (.bool (!decide (a = b)))
  | .lss => some (.bool (decide (a < b)))
  | .leq => some (.bool (decide (a ≤ b)))
  | .gtr => some (.bool (decide (b < a)))
  | .geq => some (.bool (decide (b ≤ a)))
  | _ => none
def strBin (op : BinOp) (x y : ByteArray) : Option Value :=
  match op with
  | .eql => some (.bool (decide (x = y)))
  | .neq => some (.bool (!decide (x = y)))
  | .lss => some (.bool (slt x y))
  | .leq => some (.bool (!slt y x))
  | .gtr => some (.bool (slt y x))
  | .geq => some (.bool (!slt x y))
  | _ => none
def eq1 : CK → Value → Value → Option Bool
  | .int k, .int k1 a, .int k2 b => if k1 = k ∧ k2 = k then some (decide (a = b)) else none
  | .str, .string a, .string b => some (decide (a = b))
  | .bool, .bool a, .bool b => some (a == b)
  | _, _, _ => none
def eqc : List CK → List Value → List Value → Option Bool
  | [], [], [] => some true
  | k :: ks, x :: xs, y :: ys => match eq1 k x y, eqc ks xs ys with
    | some a, some b => some (a && b)
    | _, _ => none
  | _, _, _ => none
def isNil : Nat → Value → Option Bool
  | 4, .pointer a => some a.isNone
  | 6, .slice a _ _ => some a.isNone
  | 7, .map r => some r.isNone
  | 8, .nilFunc => some true
  | 8, .func .. => some false
  | _, _ => none
/-- the value that lies at a place: one cell, or n -/
def atCells (n : Option Nat) (cs : List Value) (o : Nat) : Option Value := match n with
  | none => cs[o]?
  | some k => if o + k ≤ cs.length then some (.agg (((cs.drop o).take k).toArray)) else none
def notNil : Value → Option Value
  | .pointer (some a) => some (.pointer (some a))
  | .func (.func f) x y => some (.func (.func f) x y)
  | _ => none
def splice (cs : List Value) (off : Nat) (vs : List Value) : List Value := cs.take off ++ vs ++ cs.drop (off + vs.length)
def fillL (cs : List Value) : List (Nat × Nat × Value) → Option (List Value)
  | [] => some cs
  | (off, sz, v) :: r => if v.cells.toList.length = sz ∧ off + sz ≤ cs.length then fillL (splice cs off v.cells.toList) r else none
def evp (e : Env) : List (Nat × Nat × Operand) → Option (List (Nat × Nat × Value))
  | [] => some []
  | (o, s, x) :: xs => match ev e x, evp e xs with
    | some v, some vs => some ((o, s, v) :: vs)
    | _, _ => none

/-- What hangs on the operands alone. -/
def pv (e : Env) : MX → Option Value
  | .mv x => ev e x
  | .pick c a b => match ev e c with
    | some (.bool true) => ev e a
    | some (.bool false) => ev e b
    | _ => none
  | .nz x => match ev e x with
    | some v => notNil v
    | _ => none
  | .bin op x y => match ev e x, ev e y with
    | some (.int k a), some (.int k' b) => if k = k' then intBin op k a b else none
    | some (.string a), some (.string b) => strBin op a b
    | _, _ => none
  | .eqn k neg x y => match ev e x, ev e y with
    | some v, some u => match isNil k v, isNil k u with
      | some a, some true => some (.bool (bif neg then !a else a))
      | some true, some b => some (.bool (bif neg then !b else b))
      | _, _ => none
    | _, _ => none
  | .eqb neg x y => match ev e x, ev e y with
    | some (.bool a), some (.bool b) => some (.bool (bif neg then !(a == b) else (a == b)))
    | _, _ => none
  | .eqs neg ks x y => match ev e x, ev e y with
    | some (.agg a), some (.agg b) => match eqc ks a.toList b.toList with
      | some r => some (.bool (bif neg then !r else r))
      | none => none
    | _, _ => none
  | .un op x => match op, ev e x with
    | .not, some (.bool b) => some (.bool (!b))
    | .neg, some (.int k n) => some (.int k (k.wrap (0 - n)))
    | _, _ => none
  | .cvi k x => match ev e x with
    | some (.int _ n) => some (.int k (k.wrap n))
    | _ => none
  | .fa off x => match ev e x with
    | some (.pointer (some ⟨b, o, none⟩)) => some (.pointer (some ⟨b, o + off, none⟩))
    | _ => none
  | .fl off n x => match ev e x with
    | some (.agg cs) => atCells n cs.toList off
    | _ => none
  | .bld zero parts => match evp e parts with
    | some ps => match fillL zero ps with
      | some cs => some (.agg cs.toArray)
      | none => none
    | none => none
  | .ext x i => match ev e x with
    | some (.tuple vs) => vs.toList[i]?
    | _ => none
  | .mf fn first captured => match evs e first, evs e captured with
    | some a, some b => some (.func fn a.toArray b.toArray)
    | _, _ => none
  | .len x => match ev e x with
    | some (.slice _ n _) => some (.int .i64 n)
    | _ => none
  | .slen x => match ev e x with
    | some (.string s) => some (.int .i64 s.size)
    | _ => none
  | .mm isMax x y => match ev e x, ev e y with
    | some (.int k a), some (.int k' b) => if k = k' then some (.int k (bif isMax then (if b > a then b else a) else (if b < a then b else a))) else none
    | _, _ => none
  | _ => none

def bnd (e : Env) (dflt : Nat) : Option Operand → Option Int
  | none => some dflt
  | some x => match ev e x with
    | some (.int _ n) => some n
    | _ => none

/-- What hangs on the memory too, or on a bound. -/
def rv (h : PH) (e : Env) : MX → Option Value
  | .cat x y => match ev e x, ev e y with
    | some (.string a), some (.string b) => if a.size + b.size ≤ 9223372036854775807 then some (.string (a ++ b)) else none
    | _, _ => none
  | .ia sz x i => match ev e x, ev e i with
    | some (.slice (some ⟨b, o, none⟩) len _), some (.int _ n) => if 0 ≤ n ∧ n < len then some (.pointer (some ⟨b, o + n.toNat * sz, none⟩)) else none
    | _, _ => none
  | .ixs x i => match ev e x, ev e i with
    | some (.string s), some (.int _ n) => if 0 ≤ n then match s[n.toNat]? with
      | some b => some (.int .u8 b.toNat)
      | none => none else none
    | _, _ => none
  | .slc sz x lo hi => match ev e x with
    | some (.slice a len cap) => match bnd e 0 lo, bnd e len hi with
      | some l, some h => if 0 ≤ l ∧ l ≤ h ∧ h ≤ cap then some (.slice (if (cap : Int) = l then a else a.map (·.add (l.toNat * sz))) (h.toNat - l.toNat) (cap - l.toNat)) else none
      | _, _ => none
    | _ => none
  | .sls x lo hi => match ev e x with
    | some (.string s) => match bnd e 0 lo, bnd e s.size hi with
      | some l, some h => if 0 ≤ l ∧ l ≤ h ∧ h ≤ s.size then some (.string (s.extract l.toNat h.toNat)) else none
      | _, _ => none
    | _ => none
  | .ld n x => match ev e x with
    | some (.pointer (some ⟨b, o, none⟩)) => match h b with
      | some (.cells c _ _) => atCells n c.toList o
      | _ => none
    | _ => none
  | x => pv e x
end Go.Dv
