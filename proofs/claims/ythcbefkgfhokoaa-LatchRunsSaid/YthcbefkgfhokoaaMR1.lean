/- Parts Fw1 Fw2 Fw3 Fw4 Fw5 Fw6 Fw7 Fw8 Fw9 FwA FwB FwC FwD FwE FwF FwG FwH FwI FwJ FwK of the proof. -/
import Derived.Orders
import Derived.OrdersHeld
import Derived.WalkKit
import Derived.Laws.Small
import Derived.Laws.StructEq
import Derived.Laws.Tables
import Derived.Laws.Cells
import Derived.Laws.Slices
import Derived.Laws.Build
import Derived.Laws.Entries
import Derived.Laws.CopyRow
import Derived.Scope
import Derived.Laws.Append
import Derived.Laws.AppendOwn
import Derived.Great.BuildSlice
import Derived.Maps.Keyed
import Derived.Maps.Own
import Derived.DeepKeys5
import Derived.Deep.Slices
import Derived.ChangeStays
import Derived.JoinedCond
import Derived.ChangeSame
/- The region theorem: a region that draws its order may be walked in one order: reads first, each with the condition that it stays so while it may still come. -/
namespace Go.Dv
open Go

section
variable {P : Program} {ops : Array Oper} {Q : Exit → Act → World → Prop} {md : Region.Mode}

def wpAnyS (P : Program) (md : Region.Mode) (ops : Array Oper) (Q : Exit → Act → World → Prop) (S : Array Bool → World → Prop) : Nat → Array Bool → Act → World → Prop
  | 0, listed, a, w => Region.ready md ops listed = [] ∧ Q .normal a w
  | fuel + 1, listed, a, w =>
    (Region.ready md ops listed = [] → Q .normal a w) ∧
    ∀ i ∈ Region.ready md ops listed, wpOp P ops Q i (fun a' w' => S (listed.setIfInBounds i true) w' ∧ wpAnyS P md ops Q S fuel (listed.setIfInBounds i true) a' w') a w

theorem wpAny_of_S {S : Array Bool → World → Prop} : ∀ (fuel : Nat) (listed : Array Bool) (a : Act) (w : World), wpAnyS P md ops Q S fuel listed a w → wpAny P md ops Q fuel listed a w
  | 0, _, _, _, h => h
  | fuel + 1, _, _, _, h => ⟨h.1, fun i hi => wpOp_mono (fun a' w' h' => wpAny_of_S fuel _ a' w' h'.2) (h.2 i hi)⟩

theorem wpAnyS_mono {S S' : Array Bool → World → Prop} (hs : ∀ l w, S' l w → S l w) : ∀ (fuel : Nat) (listed : Array Bool) (a : Act) (w : World), wpAnyS P md ops Q S' fuel listed a w → wpAnyS P md ops Q S fuel listed a w
  | 0, _, _, _, h => h
  | fuel + 1, _, _, _, h => ⟨h.1, fun i hi => wpOp_mono (fun a' w' h' => ⟨hs _ _ h'.1, wpAnyS_mono hs fuel _ a' w' h'.2⟩) (h.2 i hi)⟩

/-- Number 'i' is taken first. R: whatever hangs on it; E: those of R that turn the world. -/
theorem wpAnyS_first {S : Array Bool → World → Prop} {T : World → Prop} {R E : Nat → Bool} {i : Nat} {oi : Oper} {v : Value} (hi : ops[i]? = some oi)
    (hsel : ∀ (j : Nat) (o : Oper) cs b, ops[j]? = some o → o.op ≠ .select cs b)
    (hQ : ∀ c a w, Q (.panic c) (a.put oi.dst v) w → Q (.panic c) a w)
    (hR : ∀ j, R j = true → ∃ oj, ops[j]? = some oj ∧ ∃ e ∈ oj.after, Region.binds md e = true ∧ (e.on = i ∨ R e.on = true))
    (hE : ∀ k, E k = true → R k = true) (hEi : E i = false)
    (hSset : ∀ l k w, S l w → S (l.setIfInBounds k true) w) (hSi : ∀ l w, S (l.setIfInBounds i true) w → S l w) :
    ∀ (fuel : Nat) (listed : Array Bool) (a : Act) (w : World),
      (∀ j oj, ops[j]? = some oj → j ≠ i → listed.getD j true = false → (∀ e ∈ oj.after, Region.binds md e = true → e.on ≠ i) → oi.apart ops oj = true) →
      (∀ k, R k = true → listed.getD k false = false) →
      i ∈ Region.ready md ops listed → YieldsIf P ops T oi v a → S listed w → T w →
      wpAnyS P md ops Q (fun l w => S l w ∧ ((∀ k, E k = true → l.getD k false = false) → T w)) fuel (listed.setIfInBounds i true) (a.put oi.dst v) w →
      wpAnyS P md ops Q S (fuel + 1) listed a w := by
  intro fuel
  induction fuel with
  | zero =>
    intro listed a w _ _ hr hy hS hT H
    refine ⟨fun h => (by rw [h] at hr; cases hr), fun j hj => ?_⟩
    by_cases hji : j = i
    · subst hji; exact hy.wpOp hi hT ⟨hSset _ _ _ hS, wpAnyS_mono (fun _ _ h => h.1) _ _ _ _ H⟩
    · have := ready_mono hj hji
      rw [H.1] at this
      cases this
  | succ fuel ih =>
    intro listed a w hfree hinv hr hy hS hT H
    refine ⟨fun h => (by rw [h] at hr; cases hr), fun j hj => ?_⟩
    by_cases hji : j = i
    · subst hji; exact hy.wpOp hi hT ⟨hSset _ _ _ hS, wpAnyS_mono (fun _ _ h => h.1) _ _ _ _ H⟩
    · have h1 := H.2 j (ready_mono hj hji)
      obtain ⟨hjun, oj, hoj, hall⟩ := mem_ready.1 hj
      have hil : listed.getD i false = false := by
        have h0 := (mem_ready.1 hr).1
        rcases Nat.lt_or_ge i listed.size with h' | h'
        · simp [h'] at h0 ⊢; exact h0
        · simp [Array.getElem?_eq_none h']
      have hnot : ∀ e ∈ oj.after, Region.binds md e = true → e.on ≠ i := fun e he hb heq => by
        have h1 := hall e he hb
        rw [heq, hil] at h1; cases h1
      have hjR : R j = false := by
        cases hRj : R j with
        | false => rfl
        | true =>
          obtain ⟨oj', hoj', e, he, hb, hor⟩ := hR j hRj
          rw [hoj] at hoj'; cases hoj'
          rcases hor with h | h
          · exact absurd h (hnot e he hb)
          · have := hall e he hb
            rw [hinv _ h] at this; cases this
      have h2 := wpOp_putIf hoj (hfree j oj hoj hji hjun hnot) (fun cs b => hsel i oi cs b hi) (fun cs b => hsel j oj cs b hoj) hQ hy h1
      have hfree' : ∀ k ok, ops[k]? = some ok → k ≠ i → (listed.setIfInBounds j true).getD k true = false →
          (∀ e ∈ ok.after, Region.binds md e = true → e.on ≠ i) → oi.apart ops ok = true := fun k ok hk hki hun hno => by
        refine hfree k ok hk hki ?_ hno
        by_cases hjk : j = k
        · subst hjk; exact hjun
        · rw [getD_set_ne true hjk] at hun; exact hun
      have hinv' : ∀ k, R k = true → (listed.setIfInBounds j true).getD k false = false := fun k hk => by
        have hjk : j ≠ k := fun h => by rw [h, hk] at hjR; cases hjR
        rw [getD_set_ne false hjk]; exact hinv k hk
      refine wpOp_mono (fun a' w' h3 => ?_) h2
      obtain ⟨hy', ⟨hS1, hT1⟩, hrest⟩ := h3
      rw [Array.setIfInBounds_comm _ _ (Ne.symm hji)] at hS1 hT1
      have hS2 : S (listed.setIfInBounds j true) w' := hSi _ _ hS1
      have hT2 : T w' := hT1 fun k hk => by
        have hki : i ≠ k := fun h => by rw [h, hk] at hEi; cases hEi
        rw [getD_set_ne false hki]
        exact hinv' k (hE k hk)
      refine ⟨hS2, ih (listed.setIfInBounds j true) a' w' hfree' hinv' (ready_mono hr (Ne.symm hji)) hy' hS2 hT2 ?_⟩
      rw [Array.setIfInBounds_comm _ _ hji]
      exact hrest

end
end Go.Dv

/- A plain language beside the model's operations: what is known by the types is resolved; its meaning; that it is the model's. -/
namespace Go.Dv
open Go

abbrev PH := Nat → Option Obj
def hw (w : World) : PH := fun b => w.heap[b]?
abbrev Env := List (Nat × Value)
def Env.get : Env → Nat → Option Value
  | [], _ => none
  | (k, v) :: r, t => bif Nat.beq k t then some v else Env.get r t
def ev (e : Env) : Operand → Option Value
  | .tmp t => e.get t
  | .const v => some v
  | .global g => some (.pointer (some ⟨g, 0, none⟩))
  | .func f => some (.func (.func f) #[] #[])
def evs (e : Env) : List Operand → Option (List Value)
  | [] => some []
  | x :: xs => match ev e x, evs e xs with
    | some v, some vs => some (v :: vs)
    | _, _ => none
def Ag (n : Nat) (e : Env) (a : Act) : Prop := a.defers = [] ∧ n ≤ a.tmps.size ∧ ∀ t v, e.get t = some v → a.tmps[t]? = some v

inductive CK where
  | int (k : IntKind) | str | bool
  deriving DecidableEq

inductive MX where
  | mv (x : Operand)
  | pick (c a b : Operand)
  | nz (x : Operand)
  | bin (op : BinOp) (x y : Operand)
  | cat (x y : Operand)
  | eqn (k : Nat) (neg : Bool) (x y : Operand)
  | eqb (neg : Bool) (x y : Operand)
  | eqs (neg : Bool) (ks : List CK) (x y : Operand)
  | un (op : UnOp) (x : Operand)
  | cvi (k : IntKind) (x : Operand)
  | fa (off : Nat) (x : Operand)
  | ia (sz : Nat) (x i : Operand)
  | ixs (x i : Operand)
  | fl (off : Nat) (n : Option Nat) (x : Operand)
  | bld (zero : List Value) (parts : List (Nat × Nat × Operand))
  | ext (x : Operand) (i : Nat)
  | mf (fn : Fn) (first captured : List Operand)
  | len (x : Operand)
  | slen (x : Operand)
  | slc (sz : Nat) (x : Operand) (lo hi : Option Operand)
  | sls (x : Operand) (lo hi : Option Operand)
  | mm (isMax : Bool) (x y : Operand)
  | ld (n : Option Nat) (x : Operand)
  | st (n : Nat) (x v : Operand)
  | bx (T : TypeId) (n : Nat) (v : Operand)
  | al (T : TypeId) (cs : List Value)
  | cl (f : FuncId) (args : List Operand)
  | cv (f : Operand) (args : List Operand)
  | raw (o : Oper)

def slt (x y : ByteArray) : Bool := Op.bytesLess x.toList y.toList

def intBin (op : BinOp) (k : IntKind) (a b : Int) : Option Value :=
  match op with
  | .add => some (.int k (k.wrap (a + b)))
  | .sub => some (.int k (k.wrap (a - b)))
  | .mul => some (.int k (k.wrap (a * b)))
  | .quo => if b = 0 then none else some (.int k (k.wrap (a.tdiv b)))
  | .rem => if b = 0 then none else some (.int k (a.tmod b))
  | .eql => some (.bool (decide (a = b)))
  | .neq => some (.bool (!decide (a = b)))
  | .lss => some (.bool (decide (a < b)))
  | .leq => some (.bool (decide (a ≤ b)))
  | .gtr => some (.bool (decide (b < a)))
  | .geq => some (.bool (decide (b ≤ a)))
  | _ => none
def strBin (op : BinOp) (x y : ByteArray) : Option Value :=
  match op with
  | .eql => some (.bool (decide (x = y)))
  | .neq => some (.bool (!decide (x = y)))
  | .lss => some (.bool (slt x y))
  | .leq => some (.bool (!slt y x))
  | .gtr => some (.bool (slt y x))
  | .geq => some (.bool (!slt x y))
  | _ => none
def eq1 : CK → Value → Value → Option Bool
  | .int k, .int k1 a, .int k2 b => if k1 = k ∧ k2 = k then some (decide (a = b)) else none
  | .str, .string a, .string b => some (decide (a = b))
  | .bool, .bool a, .bool b => some (a == b)
  | _, _, _ => none
def eqc : List CK → List Value → List Value → Option Bool
  | [], [], [] => some true
  | k :: ks, x :: xs, y :: ys => match eq1 k x y, eqc ks xs ys with
    | some a, some b => some (a && b)
    | _, _ => none
  | _, _, _ => none
def isNil : Nat → Value → Option Bool
  | 4, .pointer a => some a.isNone
  | 6, .slice a _ _ => some a.isNone
  | 7, .map r => some r.isNone
  | 8, .nilFunc => some true
  | 8, .func .. => some false
  | _, _ => none
/-- the value that lies at a place: one cell, or n -/
def atCells (n : Option Nat) (cs : List Value) (o : Nat) : Option Value := match n with
  | none => cs[o]?
  | some k => if o + k ≤ cs.length then some (.agg (((cs.drop o).take k).toArray)) else none
def notNil : Value → Option Value
  | .pointer (some a) => some (.pointer (some a))
  | .func (.func f) x y => some (.func (.func f) x y)
  | _ => none
def splice (cs : List Value) (off : Nat) (vs : List Value) : List Value := cs.take off ++ vs ++ cs.drop (off + vs.length)
def fillL (cs : List Value) : List (Nat × Nat × Value) → Option (List Value)
  | [] => some cs
  | (off, sz, v) :: r => if v.cells.toList.length = sz ∧ off + sz ≤ cs.length then fillL (splice cs off v.cells.toList) r else none
def evp (e : Env) : List (Nat × Nat × Operand) → Option (List (Nat × Nat × Value))
  | [] => some []
  | (o, s, x) :: xs => match ev e x, evp e xs with
    | some v, some vs => some ((o, s, v) :: vs)
    | _, _ => none

/-- What hangs on the operands alone. -/
def pv (e : Env) : MX → Option Value
  | .mv x => ev e x
  | .pick c a b => match ev e c with
    | some (.bool true) => ev e a
    | some (.bool false) => ev e b
    | _ => none
  | .nz x => match ev e x with
    | some v => notNil v
    | _ => none
  | .bin op x y => match ev e x, ev e y with
    | some (.int k a), some (.int k' b) => if k = k' then intBin op k a b else none
    | some (.string a), some (.string b) => strBin op a b
    | _, _ => none
  | .eqn k neg x y => match ev e x, ev e y with
    | some v, some u => match isNil k v, isNil k u with
      | some a, some true => some (.bool (bif neg then !a else a))
      | some true, some b => some (.bool (bif neg then !b else b))
      | _, _ => none
    | _, _ => none
  | .eqb neg x y => match ev e x, ev e y with
    | some (.bool a), some (.bool b) => some (.bool (bif neg then !(a == b) else (a == b)))
    | _, _ => none
  | .eqs neg ks x y => match ev e x, ev e y with
    | some (.agg a), some (.agg b) => match eqc ks a.toList b.toList with
      | some r => some (.bool (bif neg then !r else r))
      | none => none
    | _, _ => none
  | .un op x => match op, ev e x with
    | .not, some (.bool b) => some (.bool (!b))
    | .neg, some (.int k n) => some (.int k (k.wrap (0 - n)))
    | _, _ => none
  | .cvi k x => match ev e x with
    | some (.int _ n) => some (.int k (k.wrap n))
    | _ => none
  | .fa off x => match ev e x with
    | some (.pointer (some ⟨b, o, none⟩)) => some (.pointer (some ⟨b, o + off, none⟩))
    | _ => none
  | .fl off n x => match ev e x with
    | some (.agg cs) => atCells n cs.toList off
    | _ => none
  | .bld zero parts => match evp e parts with
    | some ps => match fillL zero ps with
      | some cs => some (.agg cs.toArray)
      | none => none
    | none => none
  | .ext x i => match ev e x with
    | some (.tuple vs) => vs.toList[i]?
    | _ => none
  | .mf fn first captured => match evs e first, evs e captured with
    | some a, some b => some (.func fn a.toArray b.toArray)
    | _, _ => none
  | .len x => match ev e x with
    | some (.slice _ n _) => some (.int .i64 n)
    | _ => none
  | .slen x => match ev e x with
    | some (.string s) => some (.int .i64 s.size)
    | _ => none
  | .mm isMax x y => match ev e x, ev e y with
    | some (.int k a), some (.int k' b) => if k = k' then some (.int k (bif isMax then (if b > a then b else a) else (if b < a then b else a))) else none
    | _, _ => none
  | _ => none

def bnd (e : Env) (dflt : Nat) : Option Operand → Option Int
  | none => some dflt
  | some x => match ev e x with
    | some (.int _ n) => some n
    | _ => none

/-- What hangs on the memory too, or on a bound. -/
def rv (h : PH) (e : Env) : MX → Option Value
  | .cat x y => match ev e x, ev e y with
    | some (.string a), some (.string b) => if a.size + b.size ≤ 9223372036854775807 then some (.string (a ++ b)) else none
    | _, _ => none
  | .ia sz x i => match ev e x, ev e i with
    | some (.slice (some ⟨b, o, none⟩) len _), some (.int _ n) => if 0 ≤ n ∧ n < len then some (.pointer (some ⟨b, o + n.toNat * sz, none⟩)) else none
    | _, _ => none
  | .ixs x i => match ev e x, ev e i with
    | some (.string s), some (.int _ n) => if 0 ≤ n then match s[n.toNat]? with
      | some b => some (.int .u8 b.toNat)
      | none => none else none
    | _, _ => none
  | .slc sz x lo hi => match ev e x with
    | some (.slice a len cap) => match bnd e 0 lo, bnd e len hi with
      | some l, some h => if 0 ≤ l ∧ l ≤ h ∧ h ≤ cap then some (.slice (if (cap : Int) = l then a else a.map (·.add (l.toNat * sz))) (h.toNat - l.toNat) (cap - l.toNat)) else none
      | _, _ => none
    | _ => none
  | .sls x lo hi => match ev e x with
    | some (.string s) => match bnd e 0 lo, bnd e s.size hi with
      | some l, some h => if 0 ≤ l ∧ l ≤ h ∧ h ≤ s.size then some (.string (s.extract l.toNat h.toNat)) else none
      | _, _ => none
    | _ => none
  | .ld n x => match ev e x with
    | some (.pointer (some ⟨b, o, none⟩)) => match h b with
      | some (.cells c _ _) => atCells n c.toList o
      | _ => none
    | _ => none
  | x => pv e x
end Go.Dv

/- From the model's operations to the plain ones. -/
namespace Go.Dv
open Go

section
variable (P : Program)

mutual
def flatT : Nat → TypeId → Option (List CK)
  | 0, _ => none
  | d + 1, t => match P.underlying t with
    | some (.int k) => some [.int k]
    | some .string => some [.str]
    | some .bool => some [.bool]
    | some (.struct fs) => if P.stoodInHeld t then none else flatF d fs.toList 0
    | _ => none
def flatF : Nat → List Field → Nat → Option (List CK)
  | 0, _, _ => none
  | _ + 1, [], _ => some []
  | d + 1, f :: fs, o => match flatT d f.type, P.info? f.type with
    | some ks, some i => if f.offset = o ∧ f.name ≠ "_" ∧ i.size = ks.length ∧ 0 < ks.length then match flatF d fs (o + ks.length) with
      | some r => some (ks ++ r)
      | none => none else none
    | _, _ => none
end

def kindOf (t : TypeId) : Nat := match P.underlying t with
  | some (.int _) => 1
  | some .string => 2
  | some .bool => 3
  | some (.pointer _) => 4
  | some (.slice _) => 6
  | some (.map ..) => 7
  | some (.func ..) => 8
  | some (.struct _) => 5
  | _ => 0
def sizeT (t : TypeId) : Option Nat := (P.info? t).map (·.size)
/-- none: one cell; some n: n cells. -/
def aggT (t : TypeId) : Option (Option Nat) := match P.underlying t with
  | none => none
  | some (.struct _) | some (.array ..) => (P.info? t).map fun i => some i.size
  | some _ => some none
def placesT (t : TypeId) : Option (List (Nat × Nat)) := match P.underlying t with
  | some (.struct fs) => fs.toList.mapM fun f => (P.info? f.type).map fun i => (f.offset, i.size)
  | _ => none

def strip (o : Oper) : Oper := ⟨none, o.op, o.type, "", #[], none⟩
def trX (o : Oper) : MX := match o.op with
  | .move x => .mv x
  | .assign x => .mv x
  | .pick c a b => .pick c a b
  | .nilCheck x => .nz x
  | .binOp op t x y _ => match kindOf P t with
    | 1 => .bin op x y
    | 2 => match op with
      | .add => .cat x y
      | _ => .bin op x y
    | 3 => match op with
      | .eql => .eqb false x y
      | .neq => .eqb true x y
      | _ => .raw (strip o)
    | 5 => match op, flatT P 12 t with
      | .eql, some ks => if P.eqGuardType P.depth t then .raw (strip o) else .eqs false ks x y
      | .neq, some ks => if P.eqGuardType P.depth t then .raw (strip o) else .eqs true ks x y
      | _, _ => .raw (strip o)
    | 0 => .raw (strip o)
    | k => match op with
      | .eql => .eqn k false x y
      | .neq => .eqn k true x y
      | _ => .raw (strip o)
  | .unOp op _ x => .un op x
  | .convert s d x => match P.underlying s, P.underlying d with
    | some (.int _), some (.int k) => .cvi k x
    | _, _ => .raw (strip o)
  | .fieldAddr s x f => match P.underlying s with
    | some (.struct fs) => match fs[f]? with
      | some fd => match P.info? fd.type with
        | some i => if i.size = 0 then .raw (strip o) else .fa fd.offset x
        | none => .raw (strip o)
      | none => .raw (strip o)
    | _ => .raw (strip o)
  | .field s x f => match P.underlying s with
    | some (.struct fs) => match fs[f]? with
      | some fd => match aggT P fd.type with
        | some n => .fl fd.offset n x
        | none => .raw (strip o)
      | none => .raw (strip o)
    | _ => .raw (strip o)
  | .indexAddr t x i => match P.underlying t with
    | some (.slice e) => match sizeT P e with
      | some n => .ia n x i
      | none => .raw (strip o)
    | _ => .raw (strip o)
  | .index t x i => match P.underlying t with
    | some .string => .ixs x i
    | _ => .raw (strip o)
  | .build t parts => match P.info? t, placesT P t with
    | some i, some pl => match i.zero, parts.toList.mapM (fun p => (pl[p.1]?).map fun q => (q.1, q.2, p.2)) with
      | some z, some ps => .bld z.cells.toList ps
      | _, _ => .raw (strip o)
    | _, _ => .raw (strip o)
  | .extract x i => .ext x i
  | .makeFunc fn a b => .mf fn a.toList b.toList
  | .slice t x lo hi none => match P.underlying t with
    | some .string => .sls x lo hi
    | some (.slice e) => match sizeT P e with
      | some n => .slc n x lo hi
      | none => .raw (strip o)
    | _ => .raw (strip o)
  | .load t x => match aggT P t with
    | some n => .ld n x
    | none => .raw (strip o)
  | .store t x v => match sizeT P t with
    | some n => .st n x v
    | none => .raw (strip o)
  | .box t v => match sizeT P t with
    | some n => .bx t n v
    | none => .raw (strip o)
  | .alloc t => match P.info? t with
    | some i => match i.zero with
      | some z => .al t z.cells.toList
      | none => .raw (strip o)
    | none => .raw (strip o)
  | .call c => match c.callee with
    | .value (.func f) => match P.funcs[f]? with
      | some fn => if fn.name == "runtime.NumGoroutine" || fn.body.isNone then .raw (strip o) else .cl f c.args.toList
      | none => .raw (strip o)
    | .value x => .cv x c.args.toList
    | .builtin .len => match c.args.toList, c.argTypes.toList with
      | [x], [t] => match P.underlying t with
        | some .string => .slen x
        | some (.slice _) => .len x
        | _ => .raw (strip o)
      | _, _ => .raw (strip o)
    | .builtin .max => match c.args.toList, c.argTypes.toList with
      | [x, y], t :: _ => if kindOf P t = 1 then .mm true x y else .raw (strip o)
      | _, _ => .raw (strip o)
    | .builtin .min => match c.args.toList, c.argTypes.toList with
      | [x, y], t :: _ => if kindOf P t = 1 then .mm false x y else .raw (strip o)
      | _, _ => .raw (strip o)
    | _ => .raw (strip o)
  | _ => .raw (strip o)
end

/-! ### What the plain ones say is what the model does: those that leave the world as it is -/
section
variable {P : Program} {w : World} {e : Env} {ρ : Operand → Value}

def Agr (e : Env) (ρ : Operand → Value) : Prop := ∀ y u, ev e y = some u → ρ y = u

theorem str_eq (a b : ByteArray) : (a.toList == b.toList) = decide (a = b) := by
  have h : a.toList = b.toList ↔ a = b := by
    rw [ByteArray.toList_eq, ByteArray.toList_eq]
    constructor
    · intro h
      obtain ⟨⟨x⟩⟩ := a
      obtain ⟨⟨y⟩⟩ := b
      simp only at h
      rw [h]
    · rintro rfl; rfl
  rw [Bool.eq_iff_iff, beq_iff_eq, decide_eq_true_iff, h]

theorem bl_total : ∀ (x y : List UInt8), (!(Op.bytesLess x y || x == y)) = Op.bytesLess y x
  | [], [] => by simp [Op.bytesLess]
  | [], b :: y => by simp [Op.bytesLess]
  | a :: x, [] => by simp [Op.bytesLess]
  | a :: x, b :: y => by
    have ih := bl_total x y
    simp only [Op.bytesLess, List.cons_beq_cons]
    by_cases h1 : a < b
    · have h2 : ¬ b < a := by simp only [UInt8.lt_iff_toNat_lt] at *; omega
      have h3 : ¬ b = a := by intro h; subst h; simp only [UInt8.lt_iff_toNat_lt] at *; omega
      simp [h1, h2, h3]
    · by_cases h2 : a = b
      · subst h2
        simp only [h1, decide_false, beq_self_eq_true, Bool.true_and, Bool.false_or]
        exact ih
      · have h3 : b < a := by
          simp only [UInt8.lt_iff_toNat_lt] at *
          have : a.toNat ≠ b.toNat := fun h => h2 (UInt8.toNat_inj.1 h)
          omega
        simp [h1, h2, h3]

theorem int_eq (a b : Int) : (a == b) = decide (a = b) := by rw [Bool.eq_iff_iff, beq_iff_eq, decide_eq_true_iff]

theorem run_intBin {op : BinOp} {k : IntKind} {a b : Int} {t : TypeId} {v : Value} (h : intBin op k a b = some v) :
    (binOp op t (.int k a) (.int k b)).run P w = .ok v w := by
  cases op <;> simp only [intBin, reduceCtorEq, Option.some.injEq] at h <;> first
    | (subst h; simp [binOp, Op.intArith]; done)
    | (subst h; simp [binOp, Op.intCmp]; done)
    | (split at h <;> simp only [reduceCtorEq, Option.some.injEq] at h; subst h; simp [binOp, Op.intDiv, *]; done)
    | (subst h; simp [binOp, Op.intCmp, bne, int_eq]; done)

theorem slt_gtr (a b : ByteArray) : (!(Op.bytesLess a.toList b.toList || a.toList == b.toList)) = slt b a := bl_total _ _
theorem slt_leq (a b : ByteArray) : (Op.bytesLess a.toList b.toList || a.toList == b.toList) = !slt b a := by rw [← slt_gtr, Bool.not_not]

theorem run_strBin {op : BinOp} {a b : ByteArray} {t : TypeId} {v : Value} (h : strBin op a b = some v) :
    (binOp op t (.string a) (.string b)).run P w = .ok v w := by
  cases op <;> simp only [strBin, reduceCtorEq, Option.some.injEq] at h <;> subst h <;> simp only [binOp, Op.stringOp, Sem.run_pure]
  case eql => rw [str_eq]
  case neq => rw [str_eq]
  case lss => rfl
  case leq => rw [slt_leq]
  case gtr => rw [slt_gtr]
  case geq => rfl
end
end Go.Dv

namespace Go.Dv
open Go
section
variable {P : Program} {w : World} {e : Env} {ρ : Operand → Value}

/-! ### equality of structs -/
theorem eqc_len : ∀ (ks : List CK) (xs ys : List Value) (b : Bool), eqc ks xs ys = some b → xs.length = ks.length ∧ ys.length = ks.length
  | [], [], [], _, _ => ⟨rfl, rfl⟩
  | [], _ :: _, _, _, h => by cases h
  | [], [], _ :: _, _, h => by cases h
  | _ :: _, [], _, _, h => by cases h
  | _ :: _, _ :: _, [], _, h => by cases h
  | k :: ks, x :: xs, y :: ys, b, h => by
    simp only [eqc] at h
    split at h
    · rename_i a r h1 h2
      obtain ⟨hx, hy⟩ := eqc_len ks xs ys r h2
      simp [hx, hy]
    · cases h

theorem eqc_append : ∀ (k1 k2 : List CK) (xs ys : List Value) (b : Bool), eqc (k1 ++ k2) xs ys = some b →
    ∃ b1 b2, eqc k1 (xs.take k1.length) (ys.take k1.length) = some b1 ∧ eqc k2 (xs.drop k1.length) (ys.drop k1.length) = some b2 ∧ b = (b1 && b2)
  | [], k2, xs, ys, b, h => ⟨true, b, by simp [eqc], by simpa using h, by simp⟩
  | k :: k1, k2, [], ys, b, h => by simp [eqc] at h
  | k :: k1, k2, x :: xs, [], b, h => by simp [eqc] at h
  | k :: k1, k2, x :: xs, y :: ys, b, h => by
    simp only [List.cons_append, eqc] at h
    split at h
    · rename_i a r h1 h2
      obtain ⟨b1, b2, e1, e2, rfl⟩ := eqc_append k1 k2 xs ys r h2
      simp only [Option.some.injEq] at h
      exact ⟨a && b1, b2, by simp [eqc, h1, e1], by simpa using e2, by rw [← h, Bool.and_assoc]⟩
    · cases h

theorem run_part {t : TypeId} {n : Option Nat} {cs : Array Value} {off : Nat} {v : Value} (ha : aggT P t = some n)
    (h : atCells n cs.toList off = some v) :
    (part t cs off).run P w = .ok v w := by
  unfold aggT at ha
  cases hu : P.underlying t with
  | none => simp [hu] at ha
  | some d =>
    have hagg : ∀ (sz : Nat), (P.info? t).map (fun i => some i.size) = some (some sz) → (sizeOf t).run P w = .ok sz w := by
      intro sz hs
      cases hi : P.info? t with
      | none => simp [hi] at hs
      | some i => simp [hi] at hs; simp [sizeOf, typeInfo, hi, hs]
    cases d
    case struct fs =>
      simp only [hu] at ha
      cases n with
      | none => cases hi : P.info? t <;> simp [hi] at ha
      | some sz =>
        simp only [atCells] at h
        split at h
        · simp only [Option.some.injEq] at h
          subst h
          simp only [part, isAgg, Sem.run_bind, run_underlying hu, Result.andThen_ok, Sem.run_pure, if_true, hagg sz ha]
          congr 2
          apply Array.ext'
          simp [Array.toList_extract, List.extract_eq_take_drop]
        · cases h
    case array m el =>
      simp only [hu] at ha
      cases n with
      | none => cases hi : P.info? t <;> simp [hi] at ha
      | some sz =>
        simp only [atCells] at h
        split at h
        · simp only [Option.some.injEq] at h
          subst h
          simp only [part, isAgg, Sem.run_bind, run_underlying hu, Result.andThen_ok, Sem.run_pure, if_true, hagg sz ha]
          congr 2
          apply Array.ext'
          simp [Array.toList_extract, List.extract_eq_take_drop]
        · cases h
    all_goals
      simp only [hu, Option.some.injEq] at ha
      subst ha
      have hc : cs[off]? = some v := by simpa [atCells] using h
      simp [part, isAgg, run_underlying hu, hc]

/-- the value whose cells are these -/
def ofCells : Option Nat → List Value → Option Value
  | none, [v] => some v
  | none, _ => none
  | some _, cs => some (.agg cs.toArray)

theorem flat_agg : ∀ {d : Nat} {t : TypeId} {ks : List CK} {i : TypeInfo}, flatT P d t = some ks → P.info? t = some i → i.size = ks.length →
    (aggT P t = some none ∧ ∃ k, ks = [k]) ∨ (aggT P t = some (some ks.length)) := by
  intro d t ks i h hi hs
  cases d with
  | zero => simp [flatT] at h
  | succ d =>
    simp only [flatT] at h
    split at h
    · rename_i k hu; simp only [Option.some.injEq] at h; exact .inl ⟨by simp [aggT, hu], _, h.symm⟩
    · rename_i hu; simp only [Option.some.injEq] at h; exact .inl ⟨by simp [aggT, hu], _, h.symm⟩
    · rename_i hu; simp only [Option.some.injEq] at h; exact .inl ⟨by simp [aggT, hu], _, h.symm⟩
    · rename_i fs hu; exact .inr (by simp [aggT, hu, hi, hs])
    · cases h

theorem eqc_one {k : CK} {xs ys : List Value} {b : Bool} (h : eqc [k] xs ys = some b) : ∃ x y, xs = [x] ∧ ys = [y] ∧ eq1 k x y = some b := by
  obtain ⟨h1, h2⟩ := eqc_len _ _ _ _ h
  match xs, ys, h1, h2 with
  | [x], [y], _, _ =>
    simp only [eqc] at h
    split at h
    · rename_i a r e1 e2
      simp only [Option.some.injEq] at e2 h
      subst e2 h
      exact ⟨x, y, rfl, rfl, by simpa using e1⟩
    · cases h

theorem run_eqT : ∀ (d : Nat), (∀ (t : TypeId) (ks : List CK) (n : Option Nat) (xs ys : List Value) (x y : Value) (b : Bool) (D : Nat), flatT P d t = some ks → aggT P t = some n → d ≤ D →
      ofCells n xs = some x → ofCells n ys = some y → eqc ks xs ys = some b → (Op.equalIn D t x y).run P w = .ok b w) ∧
    (∀ (fs : List Field) (o : Nat) (ks : List CK) (xs ys : Array Value) (b : Bool) (D : Nat), flatF P d fs o = some ks → d ≤ D → eqc ks (xs.toList.drop o) (ys.toList.drop o) = some b →
      (Op.eqFields D xs ys fs).run P w = .ok b w) := by
  intro d
  induction d with
  | zero => exact ⟨fun t ks n xs ys x y b D h => by simp [flatT] at h, fun fs o ks xs ys b D h => by simp [flatF] at h⟩
  | succ d ih =>
    constructor
    · intro t ks n xs ys x y b D h hn hD hx hy hc
      obtain ⟨D, rfl⟩ : ∃ D', D = D' + 1 := ⟨D - 1, by omega⟩
      simp only [flatT] at h
      split at h
      · rename_i k hu
        simp only [Option.some.injEq] at h; subst h
        obtain ⟨x', y', rfl, rfl, h1⟩ := eqc_one hc
        have hn' : n = none := by simp [aggT, hu] at hn; exact hn.symm
        subst hn'
        simp only [ofCells, Option.some.injEq] at hx hy
        subst hx hy
        unfold eq1 at h1
        split at h1 <;> (try simp only [reduceCtorEq] at h1)
        · rename_i k k1 a k2 c heq
          split at h1
          · rename_i hk; obtain ⟨rfl, rfl⟩ := hk
            simp only [Option.some.injEq] at h1; subst h1
            rw [run_equalIn_int w D t _ _ a c hu, int_eq]
          · cases h1
        · rename_i heq; cases heq
        · rename_i heq; cases heq
      · rename_i hu
        simp only [Option.some.injEq] at h; subst h
        obtain ⟨x', y', rfl, rfl, h1⟩ := eqc_one hc
        have hn' : n = none := by simp [aggT, hu] at hn; exact hn.symm
        subst hn'
        simp only [ofCells, Option.some.injEq] at hx hy
        subst hx hy
        unfold eq1 at h1
        split at h1 <;> (try simp only [reduceCtorEq] at h1)
        · rename_i heq; cases heq
        · rename_i a c heq
          simp only [Option.some.injEq] at h1; subst h1
          rw [run_equalIn_string w D t a c hu, str_eq]
        · rename_i heq; cases heq
      · rename_i hu
        simp only [Option.some.injEq] at h; subst h
        obtain ⟨x', y', rfl, rfl, h1⟩ := eqc_one hc
        have hn' : n = none := by simp [aggT, hu] at hn; exact hn.symm
        subst hn'
        simp only [ofCells, Option.some.injEq] at hx hy
        subst hx hy
        unfold eq1 at h1
        split at h1 <;> (try simp only [reduceCtorEq] at h1)
        · rename_i heq; cases heq
        · rename_i heq; cases heq
        · rename_i a c heq
          simp only [Option.some.injEq] at h1; subst h1
          rw [run_equalIn_bool' w D t a c hu]
      · rename_i fs hu
        split at h
        · cases h
        · rename_i hst0
          have hp : P.stoodInHeld t = false := by simpa using hst0
          have hf : P.underlying t = some (.struct (P.fieldsOf t)) := by simp [Program.fieldsOf, hu]
          have hf2 : (P.fieldsOf t).toList = fs.toList := by simp [Program.fieldsOf, hu]
          have hn' : ∃ m, n = some m := by
            cases hi : P.info? t with
            | none => simp [aggT, hu, hi] at hn
            | some i => simp [aggT, hu, hi] at hn; exact ⟨_, hn.symm⟩
          obtain ⟨m, rfl⟩ := hn'
          simp only [ofCells, Option.some.injEq] at hx hy
          subst hx hy
          rw [run_equalIn_struct w D t _ _ hf hp, hf2]
          exact ih.2 fs.toList 0 ks _ _ b D h (by omega) (by simpa using hc)
      · cases h
    · intro fs o ks xs ys b D h hD hc
      cases fs with
      | nil =>
        simp only [flatF, Option.some.injEq] at h; subst h
        have : b = true := by
          obtain ⟨h1, h2⟩ := eqc_len _ _ _ _ hc
          rw [List.length_eq_zero_iff.1 h1, List.length_eq_zero_iff.1 h2] at hc
          simpa [eqc] using hc.symm
        subst this
        simp [Op.eqFields]
      | cons f fs =>
        simp only [flatF] at h
        split at h
        · rename_i k1 i h1 hi
          split at h
          · rename_i hcond
            obtain ⟨rfl, hname, hsz, hpos⟩ := hcond
            split at h
            · rename_i k2 h2
              simp only [Option.some.injEq] at h; subst h
              obtain ⟨b1, b2, e1, e2, rfl⟩ := eqc_append k1 k2 _ _ b hc
              have hl := eqc_len _ _ _ _ e1
              obtain ⟨n, hn, hcells⟩ : ∃ n, aggT P f.type = some n ∧ ∀ (zs : Array Value), ((zs.toList.drop f.offset).take k1.length).length = k1.length →
                  ∃ v, ofCells n ((zs.toList.drop f.offset).take k1.length) = some v ∧ (part f.type zs f.offset).run P w = .ok v w := by
                rcases flat_agg h1 hi hsz with ⟨ha, k, rfl⟩ | ha
                · refine ⟨none, ha, fun zs hz => ?_⟩
                  match hq : (zs.toList.drop f.offset).take [k].length, hz with
                  | [v], _ =>
                    refine ⟨v, rfl, run_part ha ?_⟩
                    have := congrArg (·[0]?) hq
                    simpa [atCells, List.getElem?_take, List.getElem?_drop] using this
                · refine ⟨_, ha, fun zs hz => ⟨_, rfl, run_part ha ?_⟩⟩
                  have hle : f.offset + k1.length ≤ zs.toList.length := by
                    rw [List.length_take, List.length_drop] at hz
                    omega
                  simp only [atCells]
                  rw [if_pos hle]
              obtain ⟨x, hx1, hx2⟩ := hcells xs hl.1
              obtain ⟨y, hy1, hy2⟩ := hcells ys hl.2
              have hrest := ih.2 fs (f.offset + k1.length) k2 xs ys b2 D h2 (by omega) (by simpa [List.drop_drop] using e2)
              have hrun := ih.1 f.type k1 n _ _ x y b1 D h1 hn (by omega) hx1 hy1 e1
              simp only [Op.eqFields, ne_eq, hname, not_false_eq_true, if_true, Sem.run_bind, hx2, hy2, Result.andThen_ok, hrun]
              cases b1 <;> simp [hrest]
            · cases h
          · cases h
        · cases h
end
end Go.Dv

namespace Go.Dv
open Go
section
variable {P : Program} {w : World} {e : Env} {ρ : Operand → Value}

theorem cell_hw {w : World} {b o : Nat} {c : Array Value} {T : TypeId} {fz : Nat × Nat} (h : hw w b = some (.cells c T fz)) : w.cell? ⟨b, o, none⟩ = c.toList[o]? := by
  unfold hw at h
  simp [World.cell?, h]

theorem add_none (b o k : Nat) : Addr.add ⟨b, o, none⟩ k = ⟨b, o + k, none⟩ := by
  unfold Addr.add; split
  · subst_vars; rfl
  · rfl

theorem run_loadAgg {t : TypeId} {n : Option Nat} {b o : Nat} {c : Array Value} {T : TypeId} {fz : Nat × Nat} {v : Value} (ha : aggT P t = some n)
    (hb : hw w b = some (.cells c T fz))
    (hv : atCells n c.toList o = some v) :
    (loadVar t ⟨b, o, none⟩).run P w = .ok v w := by
  unfold aggT at ha
  cases hu : P.underlying t with
  | none => simp [hu] at ha
  | some d =>
    have key : ∀ (sz : Nat), (P.info? t).map (fun i => some i.size) = some (some sz) → n = some sz → (do pure (.agg (← loadCells ⟨b, o, none⟩ (← sizeOf t))) : Sem Value).run P w = .ok v w := by
      intro sz hs hn
      subst hn
      have hsz : (sizeOf t).run P w = .ok sz w := by
        cases hi : P.info? t with
        | none => simp [hi] at hs
        | some i => simp [hi] at hs; simp [sizeOf, typeInfo, hi, hs]
      simp only [atCells] at hv
      split at hv
      · rename_i hle
        simp only [Option.some.injEq] at hv
        subst hv
        have hl := run_loadCells_list (P := P) (w := w) ⟨b, o, none⟩ ((c.toList.drop o).take sz) (fun j v hj => by
          rw [add_none, cell_hw hb]
          rw [List.getElem?_take] at hj
          split at hj
          · rwa [List.getElem?_drop] at hj
          · cases hj)
        have hlen : ((c.toList.drop o).take sz).length = sz := by simp at hle ⊢; omega
        rw [hlen] at hl
        simp only [Sem.run_bind, hsz, Result.andThen_ok, hl, Sem.run_pure]
      · cases hv
    cases d
    case struct fs =>
      simp only [hu] at ha
      obtain ⟨sz, hsz⟩ : ∃ sz, n = some sz := by cases hi : P.info? t with
        | none => simp [hi] at ha
        | some i => simp [hi] at ha; exact ⟨_, ha.symm⟩
      have := key sz (by rw [ha, hsz]) hsz
      simpa [loadVar, isAgg, run_underlying hu] using this
    case array m el =>
      simp only [hu] at ha
      obtain ⟨sz, hsz⟩ : ∃ sz, n = some sz := by cases hi : P.info? t with
        | none => simp [hi] at ha
        | some i => simp [hi] at ha; exact ⟨_, ha.symm⟩
      have := key sz (by rw [ha, hsz]) hsz
      simpa [loadVar, isAgg, run_underlying hu] using this
    all_goals
      simp only [hu, Option.some.injEq] at ha
      subst ha
      have hc : w.cell? ⟨b, o, none⟩ = some v := by rw [cell_hw hb]; exact hv
      simp [loadVar, isAgg, run_underlying hu, run_load, hc]
end
end Go.Dv

namespace Go.Dv
open Go
section
variable {P : Program} {w : World} {e : Env} {ρ : Operand → Value}

theorem set_splice (off : Nat) : ∀ (vs : List Value) (k : Nat) (cs : Array Value), off + k + vs.length ≤ cs.size →
    ((vs.zipIdx k).foldl (fun (cs : Array Value) (x : Value × Nat) => cs.setIfInBounds (off + x.2) x.1) cs).toList = splice cs.toList (off + k) vs
  | [], k, cs, h => by simp [splice]
  | v :: vs, k, cs, h => by
    simp only [List.length_cons] at h
    simp only [List.zipIdx_cons, List.foldl_cons]
    rw [set_splice off vs (k + 1) (cs.setIfInBounds (off + k) v) (by simp; omega)]
    simp only [splice, Array.toList_setIfInBounds, List.length_cons]
    have hk : off + k < cs.toList.length := by simp; omega
    rw [show off + (k + 1) = off + k + 1 from by omega]
    have e1 : (cs.toList.set (off + k) v).take (off + k + 1) = cs.toList.take (off + k) ++ [v] := by
      rw [List.take_succ_eq_append_getElem (by simpa using hk)]
      simp [List.take_set_of_le]
    have e2 : (cs.toList.set (off + k) v).drop (off + k + 1 + vs.length) = cs.toList.drop (off + k + (vs.length + 1)) := by
      rw [List.drop_set_of_lt (by omega)]
      congr 1; omega
    rw [e1, e2]
    simp

theorem fill_eq (pl : List (Nat × Nat)) : ∀ (parts : List (Nat × Operand)) (ps : List (Nat × Nat × Operand)) (vs : List (Nat × Nat × Value)) (cs : Array Value) (r : List Value),
    parts.mapM (fun p => (pl[p.1]?).map fun q => (q.1, q.2, p.2)) = some ps → evp e ps = some vs → Agr e ρ → fillL cs.toList vs = some r →
    Instr.fill (pl.toArray[·]?) cs (parts.map fun p => (p.1, ρ p.2)) = some r.toArray := by
  intro parts
  induction parts with
  | nil =>
    intro ps vs cs r h hv hρ hf
    simp at h; subst h
    simp only [evp, Option.some.injEq] at hv; subst hv
    simp only [fillL, Option.some.injEq] at hf; subst hf
    simp [Instr.fill]
  | cons p parts ih =>
    intro ps vs cs r h hv hρ hf
    simp only [List.mapM_cons, Option.bind_eq_bind, Option.pure_def] at h
    cases hp : pl[p.1]? with
    | none => simp [hp] at h
    | some q =>
      cases hr : parts.mapM (fun p => (pl[p.1]?).map fun q => (q.1, q.2, p.2)) with
      | none => simp [hp, hr] at h
      | some ps' =>
        simp [hp, hr] at h
        subst h
        simp only [evp] at hv
        split at hv
        · rename_i v vs' h1 h2
          simp only [Option.some.injEq] at hv; subst hv
          simp only [fillL] at hf
          split at hf
          · rename_i hc
            obtain ⟨hc1, hc2⟩ := hc
            have hρv : ρ p.2 = v := hρ _ _ h1
            have hsz : v.cells.size = q.2 := by simpa using hc1
            simp only [List.map_cons, Instr.fill]
            have hq : (pl.toArray[p.1]?) = some q := by simpa using hp
            simp only [hq]
            rw [hρv]
            have hcond : (v.cells.size ≠ q.2 || q.1 + v.cells.size > cs.size) = false := by
              simp only [Array.length_toList] at hc2
              simp [hsz]; omega
            have hcond2 : ¬ ((decide (v.cells.size ≠ q.2) || decide (q.1 + v.cells.size > cs.size)) = true) := by simpa using hcond
            rw [if_neg hcond2]
            refine ih ps' vs' _ r hr h2 hρ ?_
            rw [show (v.cells.zipIdx.foldl (fun cs (x : Value × Nat) => cs.setIfInBounds (q.1 + x.2) x.1) cs).toList = splice cs.toList q.1 v.cells.toList from ?_]
            · exact hf
            · have := set_splice q.1 v.cells.toList 0 cs (by simp only [Array.length_toList] at hc2 ⊢; omega)
              rw [← Array.foldl_toList, Array.toList_zipIdx]
              exact this
          · cases hf
        · cases hv

theorem run_bld {t : TypeId} {parts : Array (Nat × Operand)} {i : TypeInfo} {z : Value} {pl : List (Nat × Nat)} {ps : List (Nat × Nat × Operand)} {v : Value}
    (hi : P.info? t = some i) (hp : placesT P t = some pl) (hz : i.zero = some z) (hm : parts.toList.mapM (fun p => (pl[p.1]?).map fun q => (q.1, q.2, p.2)) = some ps)
    (hρ : Agr e ρ) (h : pv e (.bld z.cells.toList ps) = some v) : (Instr.build t (parts.map fun (i, x) => (i, ρ x))).run P w = .ok v w := by
  simp only [pv] at h
  split at h
  · rename_i vs hvs
    split at h
    · rename_i cs hcs
      simp only [Option.some.injEq] at h; subst h
      have hfill := fill_eq pl parts.toList ps vs z.cells cs hm hvs hρ hcs
      refine run_build w t _ _ ?_
      unfold placesT at hp
      unfold Program.built
      rw [hi]
      split at hp
      · rename_i fs hu
        simp only [hu, hz, hp]
        rw [Array.toList_map]
        exact hfill
      · cases hp
    · cases h
  · cases h
end
end Go.Dv

namespace Go.Dv
open Go
section
variable {P : Program} {w : World} {e : Env} {ρ : Operand → Value}

theorem run_eqNil (D : Nat) {t : TypeId} {u v : Value} {k : Nat} {r : Bool} (hk : kindOf P t = k)
    (h : (∃ a, isNil k v = some a ∧ isNil k u = some true ∧ r = a) ∨ (∃ b, isNil k v = some true ∧ isNil k u = some b ∧ r = b)) :
    (Op.equalIn (D + 1) t v u).run P w = .ok r w := by
  unfold kindOf at hk
  cases hu : P.underlying t with
  | none => rw [hu] at hk; simp only at hk; subst hk; rcases h with ⟨a, h1, _, _⟩ | ⟨a, h1, _, _⟩ <;> simp [isNil] at h1
  | some d =>
    rw [hu] at hk
    cases d <;> simp only at hk <;> subst hk
    case pointer el =>
      rcases h with ⟨a, h1, h2, rfl⟩ | ⟨a, h1, h2, rfl⟩ <;> cases v <;> simp [isNil] at h1 <;> cases u <;> simp [isNil] at h2
      · rename_i a1 a2; subst h1; cases a2 <;> simp at h2; cases a1 <;> simp [Op.equalIn, run_underlying hu]
      · rename_i a1 a2; subst h2; cases a1 <;> simp at h1; simp [Op.equalIn, run_underlying hu]
    case slice el =>
      rcases h with ⟨a, h1, h2, rfl⟩ | ⟨a, h1, h2, rfl⟩ <;> cases v <;> simp [isNil] at h1 <;> cases u <;> simp [isNil] at h2
      · rename_i a1 _ _ a2 _ _; subst h1; cases a2 <;> simp at h2; cases a1 <;> simp [Op.equalIn, run_underlying hu]
      · rename_i a1 _ _ a2 _ _; subst h2; cases a1 <;> simp at h1; simp [Op.equalIn, run_underlying hu]
    case map el1 el2 =>
      rcases h with ⟨a, h1, h2, rfl⟩ | ⟨a, h1, h2, rfl⟩ <;> cases v <;> simp [isNil] at h1 <;> cases u <;> simp [isNil] at h2
      · rename_i a1 a2; subst h1; cases a2 <;> simp at h2; cases a1 <;> simp [Op.equalIn, run_underlying hu]
      · rename_i a1 a2; subst h2; cases a1 <;> simp at h1; simp [Op.equalIn, run_underlying hu]
    case func el1 el2 el3 =>
      rcases h with ⟨a, h1, h2, rfl⟩ | ⟨a, h1, h2, rfl⟩ <;> cases v <;> simp [isNil] at h1 <;> cases u <;> simp [isNil] at h2 <;>
        (try subst h1) <;> (try subst h2) <;> simp [Op.equalIn, run_underlying hu]
    all_goals (rcases h with ⟨a, h1, _, _⟩ | ⟨a, h1, _, _⟩ <;> simp [isNil] at h1)

theorem evs_spec : ∀ (xs : List Operand) (vs : List Value), evs e xs = some vs → Agr e ρ → xs.map ρ = vs
  | [], vs, h, _ => by simp only [evs, Option.some.injEq] at h; subst h; rfl
  | x :: xs, vs, h, hρ => by
    simp only [evs] at h
    split at h
    · rename_i v vs' h1 h2
      simp only [Option.some.injEq] at h; subst h
      simp [hρ x v h1, evs_spec xs vs' h2 hρ]
    · cases h

theorem run_bnds (isS : Bool) (len cap : Nat) {lo hi : Option Operand} {l h : Int} (hρ : Agr e ρ) (hl : bnd e 0 lo = some l) (hh : bnd e len hi = some h)
    (c0 : 0 ≤ l) (c1 : l ≤ h) (c2 : h ≤ cap) : (Instr.sliceBounds isS len cap (lo.map ρ) (hi.map ρ) none).run P w = .ok (l.toNat, h.toNat, cap) w := by
  have hbnd : ∀ (d : Nat) (y : Option Operand) (n : Int), bnd e d y = some n → (y = none ∧ n = d) ∨ ∃ z k, y = some z ∧ ρ z = .int k n := by
    intro d y n h
    cases y with
    | none => simp [bnd] at h; exact .inl ⟨rfl, h.symm⟩
    | some z =>
      simp only [bnd] at h
      split at h
      · rename_i k m hz
        simp only [Option.some.injEq] at h; subst h
        exact .inr ⟨z, k, rfl, hρ _ _ hz⟩
      · cases h
  have h1 : (match hi.map ρ with
      | some v => Instr.sliceBound v cap (if isS then .sliceAcap else .sliceAlen)
      | none => pure len : Sem Nat).run P w = .ok h.toNat w := by
    rcases hbnd _ _ _ hh with ⟨rfl, rfl⟩ | ⟨z2, k2, rfl, e2⟩
    · simp
    · simp only [Option.map_some, e2]
      exact run_sliceBound w k2 h cap _ (by omega) (by omega)
  have h2 : ∀ m : Nat, (m : Int) = h → (match lo.map ρ with
      | some v => Instr.sliceBound v m .sliceB
      | none => pure 0 : Sem Nat).run P w = .ok l.toNat w := by
    intro m hm
    rcases hbnd _ _ _ hl with ⟨rfl, rfl⟩ | ⟨z2, k2, rfl, e2⟩
    · simp
    · simp only [Option.map_some, e2]
      exact run_sliceBound w k2 l m _ (by omega) (by omega)
  cases hi with
  | none =>
    simp only [Option.map_none] at h1
    simp only [Instr.sliceBounds, Option.map_none, Sem.run_bind, Sem.run_pure, Result.andThen_ok, Option.isSome_none, Bool.false_eq_true, if_false]
    have hlen : (len : Int) = h := by simp [bnd] at hh; exact hh
    have := h2 len hlen
    have hl' : len = h.toNat := by omega
    cases lo with
    | none => simp only [Option.map_none, Sem.run_pure] at this ⊢; simp at this; simp [← this, hl']
    | some z => simp only [Option.map_some] at this; rw [hl'] at this; simp [this, hl']
  | some y =>
    simp only [Option.map_some] at h1
    simp only [Instr.sliceBounds, Option.map_some, Sem.run_bind, Sem.run_pure, Result.andThen_ok, Option.isSome_none, Bool.false_eq_true, if_false]
    rw [h1]
    simp only [Result.andThen_ok]
    have := h2 h.toNat (by omega)
    cases lo with
    | none => simp only [Option.map_none, Sem.run_pure] at this ⊢; simp at this; simp [← this]
    | some z => simp only [Option.map_some] at this; simp [this]

set_option maxHeartbeats 1000000 in
theorem run_rv {o : Oper} {v : Value} (hr : rv (hw w) e (trX P o) = some v) (hρ : Agr e ρ) : (execOp ρ o).run P w = .ok (.value v) w := by
  obtain ⟨dst, op, ty, pos, aft, gd⟩ := o
  cases op
  case move x => simp only [trX, rv, pv] at hr; simp [execOp, hρ x v hr]
  case assign x => simp only [trX, rv, pv] at hr; simp [execOp, hρ x v hr]
  case pick c a b =>
    simp only [trX, rv, pv] at hr
    split at hr
    · rename_i hc; simp [execOp, hρ _ _ hc, hρ _ _ hr, asBool]
    · rename_i hc; simp [execOp, hρ _ _ hc, hρ _ _ hr, asBool]
    · cases hr
  case nilCheck x =>
    simp only [trX, rv, pv] at hr
    split at hr
    · rename_i u hu
      have := hρ _ _ hu
      unfold notNil at hr
      split at hr <;> simp only [Option.some.injEq, reduceCtorEq] at hr
      · subst hr; simp [execOp, this]
      · subst hr; simp [execOp, this]
    · cases hr
  case binOp bop t x y t2 =>
    simp only [trX] at hr
    split at hr
    · -- int
      simp only [rv, pv] at hr
      split at hr
      · rename_i k a k' b h1 h2
        split at hr
        · rename_i hk; subst hk
          have := run_intBin (P := P) (w := w) (t := t) hr
          simp only [execOp, hρ _ _ h1, hρ _ _ h2, Sem.run_bind]
          have hg : (eqGuard bop t x y (.int k a) (.int k b)).run P w = .ok () w := by
            unfold eqGuard; split <;> simp
          simp [hg, this]
        · cases hr
      · rename_i a b h1 h2
        have := run_strBin (P := P) (w := w) (t := t) hr
        simp only [execOp, hρ _ _ h1, hρ _ _ h2, Sem.run_bind]
        have hg : (eqGuard bop t x y (.string a) (.string b)).run P w = .ok () w := by
          unfold eqGuard; split <;> simp
        simp [hg, this]
      · cases hr
    · -- string
      split at hr
      · simp only [rv] at hr
        split at hr
        · rename_i a b h1 h2
          split at hr
          · rename_i hle
            simp only [Option.some.injEq] at hr; subst hr
            simp only [execOp, hρ _ _ h1, hρ _ _ h2]
            simp [eqGuard, binOp, Op.stringOp]
            omega
          · cases hr
        · cases hr
      · simp only [rv, pv] at hr
        split at hr
        · rename_i k a k' b h1 h2
          split at hr
          · rename_i hk; subst hk
            have := run_intBin (P := P) (w := w) (t := t) hr
            simp only [execOp, hρ _ _ h1, hρ _ _ h2, Sem.run_bind]
            have hg : (eqGuard bop t x y (.int k a) (.int k b)).run P w = .ok () w := by
              unfold eqGuard; split <;> simp
            simp [hg, this]
          · cases hr
        · rename_i a b h1 h2
          have := run_strBin (P := P) (w := w) (t := t) hr
          simp only [execOp, hρ _ _ h1, hρ _ _ h2, Sem.run_bind]
          have hg : (eqGuard bop t x y (.string a) (.string b)).run P w = .ok () w := by
            unfold eqGuard; split <;> simp
          simp [hg, this]
        · cases hr
    · -- bool
      rename_i hk
      have hu : P.underlying t = some .bool := by
        unfold kindOf at hk
        cases hu : P.underlying t with
        | none => rw [hu] at hk; cases hk
        | some d => rw [hu] at hk; cases d <;> simp at hk; rfl
      split at hr
      · simp only [rv, pv] at hr
        split at hr
        · rename_i a b h1 h2
          simp only [Option.some.injEq] at hr; subst hr
          have := run_eql_bool (P := P) w t a b hu
          simp only [execOp, hρ _ _ h1, hρ _ _ h2, Sem.run_bind]
          have hg : (eqGuard .eql t x y (.bool a) (.bool b)).run P w = .ok () w := by
            unfold eqGuard; split <;> simp
          simp [hg, this]
        · cases hr
      · simp only [rv, pv] at hr
        split at hr
        · rename_i a b h1 h2
          simp only [Option.some.injEq] at hr; subst hr
          have := run_neq_bool (P := P) w t a b hu
          simp only [execOp, hρ _ _ h1, hρ _ _ h2, Sem.run_bind]
          have hg : (eqGuard .neq t x y (.bool a) (.bool b)).run P w = .ok () w := by
            unfold eqGuard; split <;> simp
          simp [hg, this]
        · cases hr
      · simp [rv, pv] at hr
    · -- struct
      rename_i hk
      have hn : ∃ n, aggT P t = some (some n) ∨ (aggT P t = none ∧ n = 0) := by
        unfold kindOf at hk
        cases hu : P.underlying t with
        | none => rw [hu] at hk; cases hk
        | some d =>
          rw [hu] at hk; cases d <;> simp at hk
          cases hi : P.info? t with
          | none => exact ⟨0, .inr ⟨by simp [aggT, hu, hi], rfl⟩⟩
          | some i => exact ⟨i.size, .inl (by simp [aggT, hu, hi])⟩
      have hinfo : ∀ ks, flatT P 12 t = some ks → ∃ n, aggT P t = some (some n) := by
        intro ks hks
        obtain ⟨n, hn | ⟨hn, _⟩⟩ := hn
        · exact ⟨n, hn⟩
        · exfalso
          unfold aggT at hn
          unfold kindOf at hk
          cases hu : P.underlying t with
          | none => rw [hu] at hk; cases hk
          | some d =>
            rw [hu] at hk hn
            cases d <;> simp at hk hn
            simp only [Program.underlying, hn] at hu
            cases hu
      split at hr
      · rename_i ks hks
        split at hr
        · simp [rv, pv] at hr
        · rename_i hgt
          have hgt' : P.eqGuardType P.depth t = false := by simpa using hgt
          simp only [rv, pv] at hr
          split at hr
          · rename_i a b h1 h2
            split at hr
            · rename_i r he
              simp only [Option.some.injEq] at hr; subst hr
              obtain ⟨n, hn⟩ := hinfo ks hks
              have hrun := (run_eqT (P := P) (w := w) 12).1 t ks (some n) a.toList b.toList (.agg a) (.agg b) r 10000 hks hn (by omega) (by simp [ofCells]) (by simp [ofCells]) he
              simp only [execOp, hρ _ _ h1, hρ _ _ h2, Sem.run_bind, run_eqGuard_agg w .eql t x y a b hgt', Result.andThen_ok, run_eql_struct w t a b, hrun, Sem.run_pure]
              rfl
            · cases hr
          · cases hr
      · rename_i ks hks
        split at hr
        · simp [rv, pv] at hr
        · rename_i hgt
          have hgt' : P.eqGuardType P.depth t = false := by simpa using hgt
          simp only [rv, pv] at hr
          split at hr
          · rename_i a b h1 h2
            split at hr
            · rename_i r he
              simp only [Option.some.injEq] at hr; subst hr
              obtain ⟨n, hn⟩ := hinfo ks hks
              have hrun := (run_eqT (P := P) (w := w) 12).1 t ks (some n) a.toList b.toList (.agg a) (.agg b) r 10000 hks hn (by omega) (by simp [ofCells]) (by simp [ofCells]) he
              simp only [execOp, hρ _ _ h1, hρ _ _ h2, Sem.run_bind, run_eqGuard_agg w .neq t x y a b hgt', Result.andThen_ok, run_neq_struct w t a b, hrun, Sem.run_pure]
              rfl
            · cases hr
          · cases hr
      · simp [rv, pv] at hr
    · simp [rv, pv] at hr
    · -- nil
      have key : ∀ (neg : Bool) (u1 u2 : Value) (r : Bool), ev e x = some u1 → ev e y = some u2 →
          ((∃ a, isNil (kindOf P t) u1 = some a ∧ isNil (kindOf P t) u2 = some true ∧ r = a) ∨ (∃ b, isNil (kindOf P t) u1 = some true ∧ isNil (kindOf P t) u2 = some b ∧ r = b)) →
          (execOp ρ ⟨dst, .binOp (if neg then .neq else .eql) t x y t2, ty, pos, aft, gd⟩).run P w = .ok (.value (.bool (bif neg then !r else r))) w := by
        intro neg u1 u2 r h1 h2 hor
        have heq := run_eqNil (P := P) (w := w) 9999 (t := t) (u := u2) (v := u1) rfl hor
        have hne : ∃ a, isNil (kindOf P t) u1 = some a := by rcases hor with ⟨a, h, _⟩ | ⟨b, h, _⟩ <;> exact ⟨_, h⟩
        have hne2 : ∃ a, isNil (kindOf P t) u2 = some a := by rcases hor with ⟨a, _, h, _⟩ | ⟨b, _, h, _⟩ <;> exact ⟨_, h⟩
        obtain ⟨a1, ha1⟩ := hne
        obtain ⟨a2, ha2⟩ := hne2
        have hshape : ∀ (u : Value) (a : Bool), isNil (kindOf P t) u = some a → (∃ p, u = .pointer p) ∨ (∃ p l c, u = .slice p l c) ∨ (∃ p, u = .map p) ∨ u = .nilFunc ∨ ∃ f p q, u = .func f p q := by
          intro u a h
          unfold isNil at h
          split at h <;> simp at h
          · exact .inl ⟨_, rfl⟩
          · exact .inr (.inl ⟨_, _, _, rfl⟩)
          · exact .inr (.inr (.inl ⟨_, rfl⟩))
          · exact .inr (.inr (.inr (.inl rfl)))
          · exact .inr (.inr (.inr (.inr ⟨_, _, _, rfl⟩)))
        have s1 := hshape u1 a1 ha1
        have s2 := hshape u2 a2 ha2
        have hg : ∀ op, (eqGuard op t x y u1 u2).run P w = .ok () w := by
          intro op
          clear heq hor h1 h2 ha1 ha2 s2
          rcases s1 with ⟨_, rfl⟩ | ⟨_, _, _, rfl⟩ | ⟨_, rfl⟩ | rfl | ⟨_, _, _, rfl⟩ <;> cases op <;> simp [eqGuard]
        have hb : (binOp .eql t u1 u2).run P w = .ok (.bool r) w := by
          rcases s1 with ⟨_, rfl⟩ | ⟨_, _, _, rfl⟩ | ⟨_, rfl⟩ | rfl | ⟨_, _, _, rfl⟩ <;> rcases s2 with ⟨_, rfl⟩ | ⟨_, _, _, rfl⟩ | ⟨_, rfl⟩ | rfl | ⟨_, _, _, rfl⟩ <;>
            (simp only [binOp, Sem.run_bind, Op.equal, Op.maxDepth]; rw [heq]; rfl)
        have hb2 : (binOp .neq t u1 u2).run P w = .ok (.bool (!r)) w := by
          rcases s1 with ⟨_, rfl⟩ | ⟨_, _, _, rfl⟩ | ⟨_, rfl⟩ | rfl | ⟨_, _, _, rfl⟩ <;> rcases s2 with ⟨_, rfl⟩ | ⟨_, _, _, rfl⟩ | ⟨_, rfl⟩ | rfl | ⟨_, _, _, rfl⟩ <;>
            (simp only [binOp, Sem.run_bind, Op.equal, Op.maxDepth]; rw [heq]; rfl)
        cases neg <;> simp [execOp, hρ _ _ h1, hρ _ _ h2, hg, hb, hb2]
      split at hr
      · simp only [rv, pv] at hr
        split at hr
        · rename_i u1 u2 h1 h2
          split at hr
          · rename_i a ha hb
            simp only [Option.some.injEq] at hr; subst hr
            exact key false u1 u2 a h1 h2 (.inl ⟨a, ha, hb, rfl⟩)
          · simp only [Option.some.injEq] at hr; subst hr
            exact key false u1 u2 _ h1 h2 (.inr ⟨_, by assumption, by assumption, rfl⟩)
          · cases hr
        · cases hr
      · simp only [rv, pv] at hr
        split at hr
        · rename_i u1 u2 h1 h2
          split at hr
          · rename_i a ha hb
            simp only [Option.some.injEq] at hr; subst hr
            exact key true u1 u2 a h1 h2 (.inl ⟨a, ha, hb, rfl⟩)
          · simp only [Option.some.injEq] at hr; subst hr
            exact key true u1 u2 _ h1 h2 (.inr ⟨_, by assumption, by assumption, rfl⟩)
          · cases hr
        · cases hr
      · simp [rv, pv] at hr
  case unOp uop t x =>
    simp only [trX, rv, pv] at hr
    split at hr
    · rename_i b hb
      simp only [Option.some.injEq] at hr; subst hr
      simp [execOp, hρ _ _ hb, Op.unary]
    · rename_i k n hb
      simp only [Option.some.injEq] at hr; subst hr
      simp [execOp, hρ _ _ hb, Op.unary, Op.intArith]
    · cases hr
  case convert s d x =>
    simp only [trX] at hr
    split at hr
    · rename_i k0 k h1 h2
      simp only [rv, pv] at hr
      split at hr
      · rename_i k1 n hn
        simp only [Option.some.injEq] at hr; subst hr
        simp [execOp, hρ _ _ hn, convert, run_underlying h1, run_underlying h2, Conv.intToInt]
      · cases hr
    · simp [rv, pv] at hr
  case fieldAddr s x f =>
    simp only [trX] at hr
    split at hr
    · rename_i fs hu
      split at hr
      · rename_i fd hfd
        split at hr
        · rename_i i hi
          split at hr
          · simp [rv, pv] at hr
          · rename_i hne
            simp only [rv, pv] at hr
            split at hr
            · rename_i b o hp
              simp only [Option.some.injEq] at hr; subst hr
              simp [execOp, hρ _ _ hp, Instr.fieldAt, run_underlying hu, hfd, Instr.sureAddr, fieldPlace, sizeOf, typeInfo, hi, hne, add_none]
            · cases hr
        · simp [rv, pv] at hr
      · simp [rv, pv] at hr
    · simp [rv, pv] at hr
  case field s x f =>
    simp only [trX] at hr
    split at hr
    · rename_i fs hu
      split at hr
      · rename_i fd hfd
        split at hr
        · rename_i n hn
          simp only [rv, pv] at hr
          split at hr
          · rename_i cs hcs
            have := run_part (P := P) (w := w) hn hr
            simp [execOp, hρ _ _ hcs, Instr.field, run_underlying hu, hfd, asAgg, this]
          · cases hr
        · simp [rv, pv] at hr
      · simp [rv, pv] at hr
    · simp [rv, pv] at hr
  case indexAddr t x i =>
    simp only [trX] at hr
    split at hr
    · rename_i el hu
      split at hr
      · rename_i sz hsz
        simp only [rv] at hr
        split at hr
        · rename_i b o len cap k n h1 h2
          split at hr
          · rename_i hb
            simp only [Option.some.injEq] at hr; subst hr
            have hs : (sizeOf el).run P w = .ok sz w := by
              unfold sizeT at hsz
              cases hi : P.info? el with
              | none => simp [hi] at hsz
              | some i => simp [hi] at hsz; simp [sizeOf, typeInfo, hi, hsz]
            simp [execOp, hρ _ _ h1, hρ _ _ h2, Instr.indexAt, asIntOf, run_underlying hu, hb, hs, add_none]
          · cases hr
        · cases hr
      · simp [rv, pv] at hr
    · simp [rv, pv] at hr
  case index t x i =>
    simp only [trX] at hr
    split at hr
    · rename_i hu
      simp only [rv] at hr
      split at hr
      · rename_i s k n h1 h2
        split at hr
        · rename_i h0
          split at hr
          · rename_i b hb
            simp only [Option.some.injEq] at hr; subst hr
            simp [execOp, hρ _ _ h1, hρ _ _ h2, Instr.index, asIntOf, run_underlying hu, h0, hb]
          · cases hr
        · cases hr
      · cases hr
    · simp [rv, pv] at hr
  case build t parts =>
    simp only [trX] at hr
    split at hr
    · rename_i i pl hi hp
      split at hr
      · rename_i z ps hz hm
        simp only [rv] at hr
        have := run_bld (P := P) (w := w) hi hp hz hm hρ hr
        simp [execOp, this]
      · simp [rv, pv] at hr
    · simp [rv, pv] at hr
  case extract x i =>
    simp only [trX, rv, pv] at hr
    split at hr
    · rename_i vs hvs
      simp [execOp, hρ _ _ hvs, Instr.extract]
      have : vs[i]? = some v := by simpa using hr
      simp [this]
    · cases hr
  case makeFunc fn a b =>
    simp only [trX, rv, pv] at hr
    split at hr
    · rename_i va vb h1 h2
      simp only [Option.some.injEq] at hr; subst hr
      have e1 := evs_spec _ _ h1 hρ
      have e2 := evs_spec _ _ h2 hρ
      have e1' : a.map ρ = va.toArray := by apply Array.ext'; simpa using e1
      have e2' : b.map ρ = vb.toArray := by apply Array.ext'; simpa using e2
      simp [execOp, Instr.makeFunc, e1', e2']
    · cases hr
  case load t x =>
    simp only [trX] at hr
    split at hr
    · rename_i n hn
      simp only [rv] at hr
      split at hr
      · rename_i b o hp
        split at hr
        · rename_i c T fz hb
          have := run_loadAgg (P := P) hn hb hr
          simp [execOp, hρ _ _ hp, Instr.loadAt, Instr.sureAddr, this]
        · cases hr
      · cases hr
    · simp [rv, pv] at hr
  case slice t x lo hi mx =>
    cases mx with
    | some m => simp [trX, rv, pv] at hr
    | none =>
      simp only [trX] at hr
      split at hr
      · rename_i hu
        simp only [rv] at hr
        split at hr
        · rename_i s hs
          split at hr
          · rename_i l h hl hh
            split at hr
            · rename_i hc
              obtain ⟨c0, c1, c2⟩ := hc
              simp only [Option.some.injEq] at hr; subst hr
              have hb := run_bnds (P := P) (w := w) false s.size s.size hρ hl hh c0 c1 c2
              simp only [execOp, hρ _ _ hs, Sem.run_bind, Instr.sliceAt, run_underlying hu, Result.andThen_ok, Instr.slice, Option.map_none, Option.isSome_none, Bool.false_eq_true, if_false, hb, Sem.run_pure]
            · cases hr
          · cases hr
        · cases hr
      · rename_i el hu
        split at hr
        · rename_i sz hsz
          have hs' : (sizeOf el).run P w = .ok sz w := by
            unfold sizeT at hsz
            cases hi : P.info? el with
            | none => simp [hi] at hsz
            | some i => simp [hi] at hsz; simp [sizeOf, typeInfo, hi, hsz]
          simp only [rv] at hr
          split at hr
          · rename_i a len cap hs
            split at hr
            · rename_i l h hl hh
              split at hr
              · rename_i hc
                obtain ⟨c0, c1, c2⟩ := hc
                simp only [Option.some.injEq] at hr; subst hr
                have hb := run_bnds (P := P) (w := w) true len cap hρ hl hh c0 c1 c2
                simp only [execOp, hρ _ _ hs, Sem.run_bind, Instr.sliceAt, run_underlying hu, Result.andThen_ok, Instr.slice, Option.map_none, hb, hs', Sem.run_pure]
                have hiff : (cap = l.toNat) ↔ ((cap : Int) = l) := by omega
                congr 3
                by_cases hcl : cap = l.toNat
                · rw [if_pos hcl, if_pos (hiff.1 hcl)]
                · rw [if_neg hcl, if_neg (fun h => hcl (hiff.2 h))]
              · cases hr
            · cases hr
          · cases hr
        · simp [rv, pv] at hr
      · simp [rv, pv] at hr
  case call c =>
    obtain ⟨callee, args, argTypes⟩ := c
    have hargs : ∀ (l : List Operand), args.toList = l → args.map ρ = (l.map ρ).toArray := by
      intro l hl; apply Array.ext'; simp [hl]
    cases callee with
    | value f =>
      cases f <;> simp only [trX] at hr <;> first
        | (simp [rv, pv] at hr; done)
        | (split at hr <;> first | (simp [rv, pv] at hr; done) | (split at hr <;> simp [rv, pv] at hr))
    | invoke r m => simp [trX, rv, pv] at hr
    | builtin b =>
      cases b <;> simp only [trX] at hr <;> first
        | (simp [rv, pv] at hr; done)
        | skip
      case len =>
        split at hr
        · rename_i x t h1 h2
          split at hr
          · rename_i hu
            simp only [rv, pv] at hr
            have ht : argTypes[0]? = some t := by rw [← Array.getElem?_toList, h2]; rfl
            split at hr
            · rename_i s hx
              simp only [Option.some.injEq] at hr; subst hr
              have hx' := hρ _ _ hx
              simp [execOp, resolve, hargs _ h1, hx', invoke, builtin, Builtin.len_, ht, run_underlying hu, goInt]
            · cases hr
          · rename_i el hu
            simp only [rv, pv] at hr
            have ht : argTypes[0]? = some t := by rw [← Array.getElem?_toList, h2]; rfl
            split at hr
            · rename_i a n cap hx
              simp only [Option.some.injEq] at hr; subst hr
              have hx' := hρ _ _ hx
              simp [execOp, resolve, hargs _ h1, hx', invoke, builtin, Builtin.len_, ht, run_underlying hu, goInt]
            · cases hr
          · simp [rv, pv] at hr
        · simp [rv, pv] at hr
      case max =>
        split at hr
        · rename_i x y t ts h1 h2
          split at hr
          · simp only [rv, pv] at hr
            split at hr
            · rename_i k a k' b hx hy
              split at hr
              · rename_i hk; subst hk
                simp only [Option.some.injEq] at hr; subst hr
                have hx' := hρ _ _ hx
                have hy' := hρ _ _ hy
                simp [execOp, resolve, hargs _ h1, hx', hy', invoke, builtin, run_max_int2]
              · cases hr
            · cases hr
          · simp [rv, pv] at hr
        · simp [rv, pv] at hr
      case min =>
        split at hr
        · rename_i x y t ts h1 h2
          split at hr
          · simp only [rv, pv] at hr
            split at hr
            · rename_i k a k' b hx hy
              split at hr
              · rename_i hk; subst hk
                simp only [Option.some.injEq] at hr; subst hr
                have hx' := hρ _ _ hx
                have hy' := hρ _ _ hy
                simp [execOp, resolve, hargs _ h1, hx', hy', invoke, builtin, run_min_int2]
              · cases hr
            · cases hr
          · simp [rv, pv] at hr
        · simp [rv, pv] at hr
  case store t x v =>
    simp only [trX] at hr
    split at hr <;> simp [rv, pv] at hr
  case box t v =>
    simp only [trX] at hr
    split at hr <;> simp [rv, pv] at hr
  case alloc t =>
    simp only [trX] at hr
    split at hr
    · split at hr <;> simp [rv, pv] at hr
    · simp [rv, pv] at hr
  all_goals simp [trX, rv, pv] at hr
end
end Go.Dv

namespace Go.Dv
open Go

def Bd (P : Program) (f : FuncId) : Prop := ∃ fn c, P.funcs[f]? = some fn ∧ (fn.name == "runtime.NumGoroutine") = false ∧ fn.body = some c
def evD (e : Env) (x : Operand) : Value := (ev e x).getD undef
def known (e : Env) : List Operand → Prop
  | [] => True
  | x :: xs => (∃ v, ev e x = some v) ∧ known e xs

def callsR (P : Program) (f : FuncId) (vs : Array Value) (w : World) (R : Value → World → Prop) : Prop :=
  Calls P f vs w fun x w' => ∃ v, x = .returned v ∧ R v w'

def rawR (P : Program) (R : Value → World → Prop) : Result Next → Prop
  | .ok (.value v) w' => R v w'
  | .ok .skip w' => R undef w'
  | .ok (.enter f args) w' => callsR P f args w' R
  | _ => False

/-- What an operation that turns the world does. -/
def efX (P : Program) (e : Env) (x : MX) (w : World) (R : Value → World → Prop) : Prop :=
  match x with
  | .st n p v => match ev e p, ev e v with
    | some (.pointer (some ⟨b, o, none⟩)), some u =>
      ∃ c T, hw w b = some (.cells c T (0, 0)) ∧ u.cells.toList.length = n ∧ o + n ≤ c.toList.length ∧ (u.cells.toList.all Value.oneCell') = true ∧ R undef (w.setRow b (splice c.toList o u.cells.toList).toArray)
    | _, _ => False
  | .bx T n v => match ev e v with
    | some u => n = n ∧ R (.pointer (some ⟨w.heap.size, 0, none⟩)) (w.alloc (.cells u.cells T))
    | none => False
  | .al T cs => R (.pointer (some ⟨w.heap.size, 0, none⟩)) (w.alloc (.cells cs.toArray T))
  | .cl f args => match evs e args with
    | some vs => callsR P f vs.toArray w R
    | none => False
  | .cv f args => match ev e f, evs e args with
    | some (.func (.func g) first captured), some vs => Bd P g ∧ callsR P g (first ++ vs.toArray ++ captured) w R
    | _, _ => False
  | .raw o => known e o.op.operands.toList ∧ (∀ cs b, o.op ≠ .select cs b) ∧ rawR P R ((execOp (evD e) o).run P w)
  | _ => False

section
variable {P : Program} {w : World} {e : Env} {a : Act}

theorem known_mem : ∀ {xs : List Operand}, known e xs → ∀ x ∈ xs, ∃ v, ev e x = some v
  | y :: ys, h, x, hx => by
    rcases List.mem_cons.1 hx with rfl | hx
    · exact h.1
    · exact known_mem h.2 x hx

theorem upon_calls {o : Oper} {f : FuncId} {vs : Array Value} {w : World} {R : Value → World → Prop} {next : Act → World → Prop} {Q : Exit → Act → World → Prop}
    (h : callsR P f vs w R) (hn : ∀ v w', R v w' → next (a.put o.dst v) w') : o.upon P a next Q (.ok (.enter f vs) w) := by
  rw [Oper.upon_enter]
  refine Calls.mono h ?_
  rintro x w' ⟨v, rfl, hR⟩
  exact hn v w' hR

theorem run_efX {o : Oper} {R : Value → World → Prop} {next : Act → World → Prop} {Q : Exit → Act → World → Prop}
    (h : efX P e (trX P o) w R) (hρ : Agr e a.eval) (hn : ∀ v w', R v w' → next (a.put o.dst v) w') : o.wp P a w next Q := by
  obtain ⟨dst, op, ty, pos, aft, gd⟩ := o
  have hraw : ∀ {o' : Oper}, o' = strip ⟨dst, op, ty, pos, aft, gd⟩ → efX P e (.raw o') w R → Oper.wp P ⟨dst, op, ty, pos, aft, gd⟩ a w next Q := by
    rintro o' rfl h
    simp only [efX] at h
    obtain ⟨hk, hs, h⟩ := h
    unfold Oper.wp
    have hc : execOp a.eval ⟨dst, op, ty, pos, aft, gd⟩ = execOp (evD e) (strip ⟨dst, op, ty, pos, aft, gd⟩) := by
      show execOp a.eval (strip ⟨dst, op, ty, pos, aft, gd⟩) = execOp (evD e) (strip ⟨dst, op, ty, pos, aft, gd⟩)
      refine execOp_congr _ hs fun x hx => ?_
      obtain ⟨v, hv⟩ := known_mem hk x (by simpa using hx)
      rw [hρ x v hv]; simp [evD, hv]
    rw [hc]
    generalize (execOp (evD e) (strip ⟨dst, op, ty, pos, aft, gd⟩)).run P w = r at h
    cases r with
    | ok nx w' =>
      cases nx <;> simp only [rawR] at h
      · exact hn _ _ h
      · exact hn _ _ h
      · exact upon_calls h hn
    | halt x w' => simp only [rawR] at h
  cases op
  case store t x v =>
    simp only [trX] at h
    split at h
    · rename_i n hn'
      simp only [efX] at h
      split at h
      · rename_i b o u h1 h2
        obtain ⟨c, T, hb, hl, hle, hone, hR⟩ := h
        have hsz : (sizeOf t).run P w = .ok n w := by
          unfold sizeT at hn'
          cases hi : P.info? t with
          | none => simp [hi] at hn'
          | some i => simp [hi] at hn'; simp [sizeOf, typeInfo, hi, hn']
        have hb' : w.heap[b]? = some (.cells c T (0, 0)) := hb
        have hrun := run_storeCells_at (P := P) b o T u.cells.toList 0 c w hb' (by simp at hl hle ⊢; omega) (fun v hv => List.all_eq_true.1 hone v hv)
        have hlen : u.cells.size = n := by simpa using hl
        have : (execOp a.eval ⟨dst, .store t x v, ty, pos, aft, gd⟩).run P w = .ok .skip (w.setRow b (splice c.toList o u.cells.toList).toArray) := by
          simp only [execOp, hρ _ _ h1, hρ _ _ h2, Sem.run_bind, Instr.storeAt, Instr.sureAddr, Sem.run_pure, Result.andThen_ok, storeVar, hsz]
          rw [if_neg (by simp [hlen])]
          rw [hrun]
          simp [splice]
        unfold Oper.wp
        rw [this]
        exact hn _ _ hR
      · exact h.elim
    · exact hraw rfl h
  case box t v =>
    simp only [trX] at h
    split at h
    · rename_i n hn'
      simp only [efX] at h
      split at h
      · rename_i u h1
        have : (execOp a.eval ⟨dst, .box t v, ty, pos, aft, gd⟩).run P w = .ok (.value (.pointer (some ⟨w.heap.size, 0, none⟩))) (w.alloc (.cells u.cells t)) := by
          simp [execOp, hρ _ _ h1, Instr.box, newVar, newRow]
        unfold Oper.wp
        rw [this]
        exact hn _ _ h.2
      · exact h.elim
    · exact hraw rfl h
  case alloc t =>
    simp only [trX] at h
    split at h
    · rename_i i hi
      split at h
      · rename_i z hz
        simp only [efX] at h
        have : (execOp a.eval ⟨dst, .alloc t, ty, pos, aft, gd⟩).run P w = .ok (.value (.pointer (some ⟨w.heap.size, 0, none⟩))) (w.alloc (.cells z.cells t)) := by
          simp [execOp, Instr.alloc, zeroValue, typeInfo, hi, hz, newVar, newRow]
        unfold Oper.wp
        rw [this]
        exact hn _ _ (by simpa using h)
      · exact hraw rfl h
    · exact hraw rfl h
  case call c =>
    obtain ⟨callee, args, argTypes⟩ := c
    have hargs : ∀ vs, evs e args.toList = some vs → args.map a.eval = vs.toArray := by
      intro vs hvs
      have := evs_spec _ _ hvs hρ
      apply Array.ext'; simpa using this
    have hcv : ∀ x, efX P e (.cv x args.toList) w R → Oper.wp P ⟨dst, .call ⟨.value x, args, argTypes⟩, ty, pos, aft, gd⟩ a w next Q := by
      intro x h
      simp only [efX] at h
      split at h
      · rename_i g first captured vs h1 h2
        obtain ⟨⟨fn, c, hf, hnm, hb⟩, hc⟩ := h
        have : (execOp a.eval ⟨dst, .call ⟨.value x, args, argTypes⟩, ty, pos, aft, gd⟩).run P w = .ok (.enter g (first ++ vs.toArray ++ captured)) w := by
          have hnm' : fn.name ≠ "runtime.NumGoroutine" := by simpa using hnm
          simp [execOp, resolve, hρ _ _ h1, hargs _ h2, Deferred.ofValue, invoke, callFunc, hf, hb, hnm']
        unfold Oper.wp
        rw [this]
        exact upon_calls hc hn
      · exact h.elim
    cases callee with
    | value f =>
      cases f with
      | func g =>
        simp only [trX] at h
        split at h
        · rename_i fn hf
          split at h
          · exact hraw rfl h
          · rename_i hc
            simp only [Bool.or_eq_true, not_or, Bool.not_eq_true] at hc
            simp only [efX] at h
            split at h
            · rename_i vs hvs
              have hb : ∃ c, fn.body = some c := by
                cases hb : fn.body with
                | none => simp [hb] at hc
                | some c => exact ⟨c, rfl⟩
              obtain ⟨c, hb⟩ := hb
              have hnm' : fn.name ≠ "runtime.NumGoroutine" := by simpa using hc.1
              have : (execOp a.eval ⟨dst, .call ⟨.value (.func g), args, argTypes⟩, ty, pos, aft, gd⟩).run P w = .ok (.enter g vs.toArray) w := by
                simp [execOp, resolve, Act.eval, hargs _ hvs, Deferred.ofValue, invoke, callFunc, hf, hb, hnm']
              unfold Oper.wp
              rw [this]
              exact upon_calls h hn
            · exact h.elim
        · exact hraw rfl h
      | tmp t => exact hcv _ (by simpa only [trX] using h)
      | const v => exact hcv _ (by simpa only [trX] using h)
      | global g => exact hcv _ (by simpa only [trX] using h)
    | invoke r m => exact hraw rfl (by simpa only [trX] using h)
    | builtin b =>
      cases b <;> simp only [trX] at h <;> first
        | (exact hraw rfl h)
        | (split at h <;> first | (exact hraw rfl h) | (split at h <;> first | (exact hraw rfl h) | (simp only [efX] at h; done)))
  case slice t x lo hi mx =>
    cases mx with
    | some m => exact hraw rfl (by simpa only [trX] using h)
    | none =>
      simp only [trX] at h
      split at h
      · simp only [efX] at h
      · split at h
        · simp only [efX] at h
        · exact hraw rfl h
      · exact hraw rfl h
  all_goals first
    | (exact hraw rfl (by simpa only [trX] using h))
    | (simp only [trX, efX] at h; done)
    | (simp only [trX] at h; split at h <;> first | (exact hraw rfl h) | (simp only [efX] at h; done) | (split at h <;> first | (exact hraw rfl h) | (simp only [efX] at h; done) | (split at h <;> first | (exact hraw rfl h) | (simp only [efX] at h; done) | (split at h <;> first | (exact hraw rfl h) | (simp only [efX] at h; done)))))
end
end Go.Dv

namespace Go.Dv
open Go

abbrev Gl := Os × Array (Nat × ByteArray)
def okG (g : Gl) (w : World) : Prop := w.os = g.1 ∧ w.output = g.2

inductive MT where
  | done
  | rd (d : Option Nat) (g : Option (Nat × Bool)) (m : Option Nat) (x : MX) (t : MT)
  | ef (d : Option Nat) (g : Option (Nat × Bool)) (i : Nat) (x : MX) (t : MT)
  | alt (a b : MT)

def put (e : Env) (d : Option Nat) (v : Value) : Env := match d with
  | some d => (d, v) :: e
  | none => e
def gdv (e : Env) : Option (Nat × Bool) → Option Bool
  | none => some true
  | some (s, want) => match e.get s with
    | some (.bool b) => some (b == want)
    | some _ => some false
    | none => none
def RV (P : Program) (h : PH) (e : Env) (x : MX) (v : Value) : Prop := match x with
  | .raw o => known e o.op.operands.toList ∧ (∀ cs b, o.op ≠ .select cs b) ∧ ∀ w, hw w = h → (execOp (evD e) o).run P w = .ok (.value v) w
  | x => rv h e x = some v

abbrev Pn := List (Nat × (PH → Prop))
def Pnd : Pn → Nat → PH → Prop
  | [], _, _ => True
  | (m, T) :: r, D, h => (m &&& D = 0 → T h) ∧ Pnd r D h
def remember (P : Program) (m : Option Nat) (e : Env) (x : MX) (v : Value) (pend : Pn) : Pn := match m with
  | none => pend
  | some E => (E, fun h => RV P h e x v) :: pend

def Env.le (e0 e : Env) : Prop := ∀ t v, e0.get t = some v → e.get t = some v
theorem Env.le_refl (e : Env) : Env.le e e := fun _ _ h => h

/-- What a region does, walked along its tree. (At each step something may be forgotten.) -/
def HTh (P : Program) (gl : Gl) (K : Env → PH → Prop) : MT → Pn → Nat → Env → PH → Prop
  | .done, _, _, e, h => ∃ e0, Env.le e0 e ∧ K e0 h
  | .rd d g m x t, pend, D, e, h => ∃ e0, Env.le e0 e ∧
    ((gdv e0 g = some true ∧ ∃ v, RV P h e0 x v ∧ HTh P gl K t (remember P m e0 x v pend) D (put e0 d v) h) ∨
    (gdv e0 g = some false ∧ HTh P gl K t pend D (put e0 d undef) h))
  | .ef d g i x t, pend, D, e, h => ∃ e0, Env.le e0 e ∧
    ((gdv e0 g = some true ∧ ∀ w, hw w = h → okG gl w → efX P e0 x w fun v w' => okG gl w' ∧ Pnd pend (D ||| 2 ^ i) (hw w') ∧ HTh P gl K t pend (D ||| 2 ^ i) (put e0 d v) (hw w')) ∨
    (gdv e0 g = some false ∧ HTh P gl K t pend (D ||| 2 ^ i) (put e0 d undef) h))
  | .alt a b, pend, D, e, h => HTh P gl K a pend D e h ∧ HTh P gl K b pend D e h
theorem HTh_mono {P : Program} {gl : Gl} {K : Env → PH → Prop} {e0 e : Env} (hle : Env.le e0 e) : ∀ {t : MT} {pend : Pn} {D : Nat} {h : PH}, HTh P gl K t pend D e0 h → HTh P gl K t pend D e h
  | .done, _, _, _, ⟨e1, h1, h2⟩ => ⟨e1, fun t v h => hle _ _ (h1 t v h), h2⟩
  | .rd .., _, _, _, ⟨e1, h1, h2⟩ => ⟨e1, fun t v h => hle _ _ (h1 t v h), h2⟩
  | .ef .., _, _, _, ⟨e1, h1, h2⟩ => ⟨e1, fun t v h => hle _ _ (h1 t v h), h2⟩
  | .alt .., _, _, _, ⟨h1, h2⟩ => ⟨HTh_mono hle h1, HTh_mono hle h2⟩

/-! ### the trees of a region -/
def gslot (ops : Array Oper) (o : Oper) : Option (Option (Nat × Bool)) := match o.guard with
  | none => some none
  | some (j, want) => match (ops[j]?).bind (·.dst) with
    | some s => some (some (s, want))
    | none => none
def effRaw : Op → Bool
  | .lookup .. | .binOp .. | .unOp .. | .slice .. | .index .. | .field .. | .fieldAddr .. | .indexAddr .. | .load .. | .makeInterface .. | .waits _ | .entry _ | .typeAssert .. | .extract .. => false
  | .call { callee := .builtin .len, .. } | .call { callee := .builtin .cap, .. } | .call { callee := .builtin .min, .. } | .call { callee := .builtin .max, .. } => false
  | _ => true
def isEff : MX → Bool
  | .st .. | .bx .. | .al .. | .cl .. | .cv .. => true
  | .raw o => effRaw o.op
  | _ => false
def isMem : MX → Bool
  | .ld .. | .raw _ => true
  | _ => false
def hangs (i m : Nat) (o : Oper) : Bool := o.after.any fun e => Region.binds .any e && (e.on == i || m.testBit e.on)
def depMask (ops : Array Oper) (i : Nat) : Nat := ops.toList.zipIdx.foldl (fun m (x : Oper × Nat) => bif hangs i m x.1 then m ||| 2 ^ x.2 else m) 0
def okDep (ops : Array Oper) (i m : Nat) : Bool := (List.range (m + 1).log2.succ).all fun j => !m.testBit j || (match ops[j]? with
  | some o => hangs i m o
  | none => false)
def altL : List MT → MT
  | [] => .done
  | [t] => t
  | t :: ts => .alt t (altL ts)
def mkT (P : Program) (ops : Array Oper) (E : Nat) : Nat → Array Bool → Option MT
  | 0, listed => if (Region.ready .any ops listed).isEmpty then some .done else none
  | fuel + 1, listed => match (Region.ready .any ops listed).find? (fun i => !E.testBit i) with
    | some i => match ops[i]? with
      | some o => match gslot ops o, mkT P ops E fuel (listed.setIfInBounds i true) with
        | some g, some t => bif Region.free .any ops listed i then
            (bif isMem (trX P o) then (bif okDep ops i (depMask ops i) then some (.rd o.dst g (some (depMask ops i &&& E)) (trX P o) t) else none)
             else some (.rd o.dst g none (trX P o) t))
          else none
        | _, _ => none
      | none => none
    | none => ((Region.ready .any ops listed).mapM fun i => match ops[i]? with
      | some o => match gslot ops o, mkT P ops E fuel (listed.setIfInBounds i true) with
        | some g, some t => some (MT.ef o.dst g i (trX P o) t)
        | _, _ => none
      | none => none).map altL
def effMask (P : Program) (ops : Array Oper) : Nat := ops.toList.zipIdx.foldl (fun m (x : Oper × Nat) => bif isEff (trX P x.1) then m ||| 2 ^ x.2 else m) 0
def seqT (P : Program) (ops : Array Oper) : List Nat → Option MT
  | [] => some .done
  | i :: l => match ops[i]? with
    | some o => match gslot ops o, seqT P ops l with
      | some g, some t => some (bif isEff (trX P o) then .ef o.dst g 0 (trX P o) t else .rd o.dst g none (trX P o) t)
      | _, _ => none
    | none => none
def dstOk (n : Nat) (ops : Array Oper) : Bool := ops.all fun o => match o.dst with
  | some d => Nat.blt d n
  | none => true

section
variable {P : Program} {gl : Gl} {n : Nat} {e : Env} {a : Act} {ops : Array Oper}

theorem Ag.le {e0 : Env} (h : Ag n e a) (hle : Env.le e0 e) : Ag n e0 a := ⟨h.1, h.2.1, fun t v ht => h.2.2 t v (hle t v ht)⟩
theorem Ag.agr (h : Ag n e a) : Agr e a.eval := by
  intro y u hy
  cases y with
  | tmp t => simp only [ev] at hy; simp [Act.eval, h.2.2 t u hy]
  | const v => simpa [ev, Act.eval] using hy
  | global g => simpa [ev, Act.eval] using hy
  | func f => simpa [ev, Act.eval] using hy

theorem Ag.put {d : Option Nat} {v : Value} (h : Ag n e a) (hd : ∀ k, d = some k → k < n) : Ag n (put e d v) (a.put d v) := by
  cases d with
  | none => exact h
  | some d =>
    have hdn := hd d rfl
    obtain ⟨h1, h2, h3⟩ := h
    refine ⟨h1, by simpa [Act.put] using h2, fun t u ht => ?_⟩
    simp only [Dv.put, Env.get] at ht
    have hds : d < a.tmps.size := by omega
    by_cases hdt : d = t
    · subst hdt
      simp at ht
      simp [Act.put, hds, ht]
    · have hb : Nat.beq d t = false := by
        cases hq : Nat.beq d t with
        | false => rfl
        | true => exact absurd (Nat.eq_of_beq_eq_true hq) hdt
      rw [hb] at ht
      simp only [Act.put, Array.getElem?_setIfInBounds_ne hdt]
      exact h3 t u ht

theorem wanted_of {o : Oper} {g : Option (Nat × Bool)} {b : Bool} (h : Ag n e a) (hg : gslot ops o = some g) (hv : gdv e g = some b) :
    Region.wanted o (yielded ops a.tmps) = b := by
  unfold gslot at hg
  unfold Region.wanted
  cases hgd : o.guard with
  | none => rw [hgd] at hg; simp only [Option.some.injEq] at hg; subst hg; simpa [gdv] using hv
  | some q =>
    obtain ⟨j, want⟩ := q
    rw [hgd] at hg
    simp only at hg
    split at hg
    · rename_i s hs
      simp only [Option.some.injEq] at hg; subst hg
      simp only [gdv] at hv
      split at hv
      · rename_i c hc
        simp only [Option.some.injEq] at hv; subst hv
        have := h.2.2 _ _ hc
        simp [yielded, hs, this]
      · rename_i c hnb hc
        simp only [Option.some.injEq] at hv; subst hv
        have := h.2.2 _ _ hc
        cases c <;> first
          | (exact absurd rfl (hnb _))
          | (simp [yielded, hs, this])
      · cases hv
    · cases hg

theorem dstOk_spec (hd : dstOk n ops = true) {i : Nat} {o : Oper} (hi : ops[i]? = some o) : ∀ k, o.dst = some k → k < n := by
  intro k hk
  unfold dstOk at hd
  have := Array.all_eq_true_iff_forall_mem.1 hd o (Array.mem_of_getElem? hi)
  rw [hk] at this
  simpa [Nat.blt_eq] using this

theorem RV_run {o : Oper} {w : World} {v : Value} (h : RV P (hw w) e (trX P o) v) (ha : Agr e a.eval) : (execOp a.eval o).run P w = .ok (.value v) w := by
  have key : ∀ o', trX P o = .raw o' → o' = strip o := by
    intro o' h
    obtain ⟨dst, op, ty, pos, aft, gd⟩ := o
    cases op <;> simp only [trX] at h <;> first
      | (cases h; done)
      | (injection h with h; exact h.symm)
      | skip
    all_goals (repeat' (first | (cases h; done) | (injection h with h; exact h.symm) | split at h))
  unfold RV at h
  split at h
  · rename_i o' hx
    obtain ⟨hk, hs, hr⟩ := h
    obtain rfl := key o' hx
    show (execOp a.eval (strip o)).run P w = .ok (.value v) w
    rw [execOp_congr (ρ := a.eval) (ρ' := evD e) (strip o) hs ?_]
    · exact hr w rfl
    · intro x hx
      obtain ⟨v, hv⟩ := known_mem hk x (by simpa using hx)
      rw [ha x v hv]; simp [evD, hv]
  · exact run_rv h ha
end
end Go.Dv

namespace Go.Dv
open Go
section
variable {P : Program} {gl : Gl} {n : Nat} {ops : Array Oper}

def endQ (n : Nat) (gl : Gl) (K : Env → PH → Prop) : Exit → Act → World → Prop
  | .normal, a, w => ∃ e, Ag n e a ∧ okG gl w ∧ K e (hw w)
  | _, _, _ => False

theorem seq_sound {K : Env → PH → Prop} (hd : dstOk n ops = true) : ∀ (l : List Nat) (t : MT) (D : Nat) (e : Env) (a : Act) (w : World), seqT P ops l = some t →
    HTh P gl K t [] D e (hw w) → Ag n e a → okG gl w → wpOps P ops (endQ n gl K) l a w
  | [], t, D, e, a, w, h, hT, ha, hg => by
    simp only [seqT, Option.some.injEq] at h; subst h
    obtain ⟨e0, hle, hK⟩ := hT
    exact ⟨e0, ha.le hle, hg, hK⟩
  | i :: l, t, D, e, a, w, h, hT, ha, hg => by
    simp only [seqT] at h
    split at h
    · rename_i o ho
      split at h
      · rename_i g t' hgs ht'
        simp only [Option.some.injEq] at h
        simp only [wpOps, ho]
        have hdo := dstOk_spec hd ho
        cases heff : isEff (trX P o) with
        | true =>
          rw [heff] at h; simp only [cond_true] at h; subst h
          simp only [HTh] at hT
          obtain ⟨e0, hle, hT⟩ := hT
          replace ha := ha.le hle
          rcases hT with ⟨hgv, hT⟩ | ⟨hgv, hT⟩
          · rw [wanted_of ha hgs hgv]
            simp only [if_true]
            refine .inl (run_efX (hT w rfl hg) ha.agr ?_)
            rintro v w' ⟨hg', _, hT'⟩
            exact seq_sound hd l t' _ _ _ w' ht' hT' (ha.put hdo) hg'
          · rw [wanted_of ha hgs hgv]
            simp only [Bool.false_eq_true, if_false]
            exact seq_sound hd l t' _ _ _ w ht' hT (ha.put hdo) hg
        | false =>
          rw [heff] at h; simp only [cond_false] at h; subst h
          simp only [HTh, remember] at hT
          obtain ⟨e0, hle, hT⟩ := hT
          replace ha := ha.le hle
          rcases hT with ⟨hgv, v, hR, hT⟩ | ⟨hgv, hT⟩
          · rw [wanted_of ha hgs hgv]
            simp only [if_true]
            refine .inl ?_
            unfold Oper.wp
            rw [RV_run hR ha.agr]
            exact seq_sound hd l t' _ _ _ w ht' hT (ha.put hdo) hg
          · rw [wanted_of ha hgs hgv]
            simp only [Bool.false_eq_true, if_false]
            exact seq_sound hd l t' _ _ _ w ht' hT (ha.put hdo) hg
      · cases h
    · cases h

/-! ### regions that draw -/
def Sp (pend : Pn) (l : Array Bool) (w : World) : Prop := ∀ p ∈ pend, (∀ k, p.1.testBit k = true → l.getD k false = false) → p.2 (hw w)

theorem set_false {l : Array Bool} {i k : Nat} (h : (l.setIfInBounds i true).getD k false = false) : l.getD k false = false := by
  by_cases hik : i = k
  · subst hik
    rcases Nat.lt_or_ge i l.size with h' | h'
    · simp [h'] at h
    · simp [Array.getElem?_eq_none h']
  · rwa [getD_set_ne false hik] at h

theorem altL_all {K : Env → PH → Prop} {pend : Pn} {D : Nat} {e : Env} {h : PH} : ∀ (ts : List MT), ts ≠ [] → HTh P gl K (altL ts) pend D e h → ∀ t ∈ ts, HTh P gl K t pend D e h
  | [], hne, _, _, _ => absurd rfl hne
  | [t], _, hT, t', ht' => by
    simp only [List.mem_singleton] at ht'; subst ht'; exact hT
  | t :: u :: ts, _, hT, t', ht' => by
    simp only [altL, HTh] at hT
    rcases List.mem_cons.1 ht' with rfl | h
    · exact hT.1
    · exact altL_all (u :: ts) (by simp) hT.2 t' h

theorem mapM_mem {α β : Type} (f : α → Option β) : ∀ (l : List α) (r : List β), l.mapM f = some r → (l = [] ↔ r = []) ∧ ∀ x ∈ l, ∃ y ∈ r, f x = some y
  | [], r, h => by simp at h; subst h; simp
  | x :: l, r, h => by
    simp only [List.mapM_cons, Option.bind_eq_bind, Option.pure_def] at h
    cases hx : f x with
    | none => simp [hx] at h
    | some y =>
      cases hl : l.mapM f with
      | none => simp [hx, hl] at h
      | some ys =>
        simp [hx, hl] at h
        subst h
        obtain ⟨_, h2⟩ := mapM_mem f l ys hl
        refine ⟨by simp, fun z hz => ?_⟩
        rcases List.mem_cons.1 hz with rfl | hz
        · exact ⟨y, by simp, hx⟩
        · obtain ⟨u, hu, e⟩ := h2 z hz
          exact ⟨u, by simp [hu], e⟩

theorem okDep_spec {i m : Nat} (h : okDep ops i m = true) : ∀ j, m.testBit j = true → ∃ oj, ops[j]? = some oj ∧ ∃ e ∈ oj.after, Region.binds .any e = true ∧ (e.on = i ∨ m.testBit e.on = true) := by
  intro j hj
  unfold okDep at h
  rw [List.all_eq_true] at h
  have hlt : j ∈ List.range (m + 1).log2.succ := by
    rw [List.mem_range]
    have h1 : 2 ^ j ≤ m := Nat.ge_two_pow_of_testBit hj
    have h2 : m + 1 < 2 ^ ((m + 1).log2 + 1) := Nat.lt_log2_self
    have h3 : 2 ^ j < 2 ^ ((m + 1).log2 + 1) := by omega
    exact (Nat.pow_lt_pow_iff_right (by omega)).1 h3
  have := h j hlt
  rw [hj] at this
  simp only [Bool.not_true, Bool.false_or] at this
  split at this
  · rename_i o ho
    unfold hangs at this
    obtain ⟨e, he, hb⟩ := Array.any_eq_true'.1 this
    simp only [Bool.and_eq_true, Bool.or_eq_true, beq_iff_eq] at hb
    exact ⟨o, ho, e, he, hb.1, hb.2⟩
  · cases this

theorem Pnd_spec : ∀ {pend : Pn} {D : Nat} {h : PH}, Pnd pend D h → ∀ p ∈ pend, p.1 &&& D = 0 → p.2 h
  | (m, T) :: r, D, h, hp, p, hm, hz => by
    rcases List.mem_cons.1 hm with rfl | hm
    · exact hp.1 hz
    · exact Pnd_spec hp.2 p hm hz

theorem ready_lt {md : Region.Mode} {listed : Array Bool} {i : Nat} (h : i ∈ Region.ready md ops listed) : i < ops.size := by
  obtain ⟨_, o, ho, _⟩ := mem_ready.1 h
  exact (Array.getElem?_eq_some_iff.1 ho).1

theorem Sp_set {pend : Pn} (l : Array Bool) (k : Nat) (w : World) (h : Sp pend l w) : Sp pend (l.setIfInBounds k true) w :=
  fun p hp hk => h p hp fun j hj => set_false (hk j hj)

theorem Sp_back {pend : Pn} {E : Nat} {i : Nat} (hi : E.testBit i = false) (hE : ∀ p ∈ pend, ∀ k, p.1.testBit k = true → E.testBit k = true) (l : Array Bool) (w : World)
    (h : Sp pend (l.setIfInBounds i true) w) : Sp pend l w := by
  intro p hp hk
  refine h p hp fun k hkk => ?_
  have hik : i ≠ k := fun hh => by have := hE p hp k hkk; rw [← hh, hi] at this; cases this
  rw [getD_set_ne false hik]
  exact hk k hkk

theorem Sp_of_Pnd {pend : Pn} {D i : Nat} {l : Array Bool} {w : World} (hD : ∀ k, D.testBit k = true → l.getD k false = true) (hi : i < l.size)
    (h : Pnd pend (D ||| 2 ^ i) (hw w)) : Sp pend (l.setIfInBounds i true) w := by
  intro p hp hk
  refine Pnd_spec h p hp ?_
  refine Nat.eq_of_testBit_eq fun k => ?_
  rw [Nat.testBit_and, Nat.zero_testBit]
  cases hpk : p.1.testBit k with
  | false => rfl
  | true =>
    have hl := hk k hpk
    have hik : i ≠ k := by
      rintro rfl
      simp [hi] at hl
    have hDk : D.testBit k = false := by
      cases hDk : D.testBit k with
      | false => rfl
      | true =>
        have := hD k hDk
        rw [getD_set_ne false hik, this] at hl
        cases hl
    rw [Nat.testBit_or, hDk, Nat.testBit_two_pow]
    simp [hik]

theorem D_set {D i : Nat} {l : Array Bool} (hD : ∀ k, D.testBit k = true → l.getD k false = true) (hi : i < l.size) :
    ∀ k, (D ||| 2 ^ i).testBit k = true → (l.setIfInBounds i true).getD k false = true := by
  intro k hk
  rw [Nat.testBit_or, Nat.testBit_two_pow] at hk
  by_cases hik : i = k
  · subst hik; simp [hi]
  · simp [hik] at hk
    exact getD_set_true (hD k hk)

theorem RV_any {x : MX} {h h' : PH} {e : Env} {v : Value} (hm : isMem x = false) (hr : RV P h e x v) : RV P h' e x v := by
  cases x <;> simp only [isMem, reduceCtorEq] at hm <;> exact hr

/-- whatever hangs on i has not come -/
theorem dep_unlisted {listed : Array Bool} {i : Nat} (hil : listed.getD i false = false)
    (hcl : ∀ k j oj, ops[j]? = some oj → (∃ e ∈ oj.after, Region.binds .any e = true ∧ e.on = k) → listed.getD j false = true → listed.getD k false = true) :
    ∀ k, (depMask ops i).testBit k = true → listed.getD k false = false := by
  have key : ∀ (l : List (Oper × Nat)) (m : Nat), (∀ x ∈ l, ops[x.2]? = some x.1) → (∀ k, m.testBit k = true → listed.getD k false = false) →
      ∀ k, (l.foldl (fun m (x : Oper × Nat) => bif hangs i m x.1 then m ||| 2 ^ x.2 else m) m).testBit k = true → listed.getD k false = false := by
    intro l
    induction l with
    | nil => intro m _ hm k hk; exact hm k hk
    | cons x l ih =>
      intro m hx hm
      simp only [List.foldl_cons]
      refine ih _ (fun y hy => hx y (List.mem_cons_of_mem _ hy)) ?_
      intro k hk
      cases hh : hangs i m x.1 with
      | false => rw [hh] at hk; exact hm k hk
      | true =>
        rw [hh] at hk
        simp only [cond_true, Nat.testBit_or, Nat.testBit_two_pow, Bool.or_eq_true, decide_eq_true_eq] at hk
        rcases hk with hk | rfl
        · exact hm k hk
        · cases hl : listed.getD x.2 false with
          | false => rfl
          | true =>
            unfold hangs at hh
            obtain ⟨e, he, hb⟩ := Array.any_eq_true'.1 hh
            simp only [Bool.and_eq_true, Bool.or_eq_true, beq_iff_eq] at hb
            have := hcl e.on x.2 x.1 (hx x List.mem_cons_self) ⟨e, he, hb.1, rfl⟩ hl
            rcases hb.2 with h | h
            · rw [h, hil] at this; cases this
            · rw [hm _ h] at this; cases this
  refine key _ 0 ?_ (fun k hk => by simp at hk)
  intro x hx
  have := List.mem_zipIdx hx
  obtain ⟨_, h2, h3⟩ := this
  rw [h3]
  simp at h2 ⊢

theorem mkT_sound {K : Env → PH → Prop} {E : Nat} (hd : dstOk n ops = true) (hs : Region.noSelect ops = true) : ∀ (fuel : Nat) (listed : Array Bool) (t : MT) (pend : Pn) (D : Nat) (e : Env) (a : Act) (w : World),
    mkT P ops E fuel listed = some t → HTh P gl K t pend D e (hw w) → Ag n e a → okG gl w → listed.size = ops.size → Sp pend listed w →
    (∀ p ∈ pend, ∀ k, p.1.testBit k = true → E.testBit k = true) → (∀ k, D.testBit k = true → listed.getD k false = true) →
    (∀ k j oj, ops[j]? = some oj → (∃ e ∈ oj.after, Region.binds .any e = true ∧ e.on = k) → listed.getD j false = true → listed.getD k false = true) →
    wpAnyS P .any ops (endQ n gl K) (Sp pend) fuel listed a w := by
  intro fuel
  induction fuel with
  | zero =>
    intro listed t pend D e a w h hT ha hg hsz hS hE hD hcl
    simp only [mkT] at h
    split at h
    · rename_i hr
      simp only [Option.some.injEq] at h; subst h
      obtain ⟨e0, hle, hK⟩ := hT
      exact ⟨by simpa using hr, e0, ha.le hle, hg, hK⟩
    · cases h
  | succ fuel ih =>
    intro listed t pend D e a w h hT ha hg hsz hS hE hD hcl
    have hclset : ∀ i, i ∈ Region.ready .any ops listed → ∀ k j oj, ops[j]? = some oj → (∃ e ∈ oj.after, Region.binds .any e = true ∧ e.on = k) → (listed.setIfInBounds i true).getD j false = true → (listed.setIfInBounds i true).getD k false = true := by
      intro i hi k j oj hoj hex hj
      refine getD_set_true ?_
      by_cases hij : i = j
      · subst hij
        obtain ⟨_, o, ho, hall⟩ := mem_ready.1 hi
        rw [ho] at hoj; cases hoj
        obtain ⟨e', he, hb, rfl⟩ := hex
        exact hall e' he hb
      · rw [getD_set_ne false hij] at hj
        exact hcl k j oj hoj hex hj
    simp only [mkT] at h
    split at h
    · rename_i i hfind
      have hiE : E.testBit i = false := by simpa using List.find?_some hfind
      have hir : i ∈ Region.ready .any ops listed := List.mem_of_find?_eq_some hfind
      split at h
      · rename_i o ho
        split at h
        · rename_i g t' hgs ht'
          have hdo := dstOk_spec hd ho
          cases hfree : Region.free .any ops listed i with
          | false => rw [hfree] at h; cases h
          | true =>
            rw [hfree] at h
            simp only [cond_true] at h
            have hfr := Region.free_spec (md := .any) ho hfree
            have hQ : ∀ v c a w, endQ n gl K (.panic c) (Act.put a o.dst v) w → endQ n gl K (.panic c) a w := fun _ _ _ _ h => h.elim
            have hinv0 : ∀ k : Nat, False = true → listed.getD k false = false := fun _ h => by simp at h
            have hil : listed.getD i false = false := by
              have h0 := (mem_ready.1 hir).1
              rcases Nat.lt_or_ge i listed.size with h' | h'
              · simp [h'] at h0 ⊢; exact h0
              · simp [Array.getElem?_eq_none h']
            have hsz' : (listed.setIfInBounds i true).size = ops.size := by simpa using hsz
            have hD' : ∀ k, D.testBit k = true → (listed.setIfInBounds i true).getD k false = true := fun k hk => getD_set_true (hD k hk)
            -- not remembered
            have plain : ∀ e (ha : Ag n e a) v, YieldsIf P ops (fun _ => True) o v a → HTh P gl K t' pend D (put e o.dst v) (hw w) → wpAnyS P .any ops (endQ n gl K) (Sp pend) (fuel + 1) listed a w := by
              intro e ha v hy hT'
              refine wpAnyS_first (T := fun _ => True) (R := fun _ => false) (E := fun _ => false) ho (Region.noSelect_spec hs) (hQ v) (fun j hj => by simp at hj) (fun k hk => hk) rfl
                Sp_set (Sp_back hiE hE) fuel listed a w hfr (fun k hk => by simp at hk) hir hy hS trivial ?_
              refine wpAnyS_mono (fun l w h => ⟨h, fun _ => trivial⟩) _ _ _ _ (ih _ t' pend D _ _ w ht' hT' (ha.put hdo) hg hsz' (Sp_set _ _ _ hS) hE hD' (hclset i hir))
            have skip : ∀ e (ha : Ag n e a) t'', t = t'' → gdv e g = some false → HTh P gl K t' pend D (put e o.dst undef) (hw w) → wpAnyS P .any ops (endQ n gl K) (Sp pend) (fuel + 1) listed a w := by
              intro e ha _ _ hgv hT'
              exact plain e ha undef (.inr ⟨wanted_of ha hgs hgv, rfl⟩) hT'
            cases hmem : isMem (trX P o) with
            | false =>
              rw [hmem] at h
              simp only [cond_false, Option.some.injEq] at h; subst h
              simp only [HTh, remember] at hT
              obtain ⟨e0, hle, hT⟩ := hT
              replace ha := ha.le hle
              rcases hT with ⟨hgv, v, hR, hT'⟩ | ⟨hgv, hT'⟩
              · refine plain e0 ha v (.inl ⟨wanted_of ha hgs hgv, fun w' _ => ?_⟩) hT'
                exact RV_run (e := e0) (RV_any hmem hR) ha.agr
              · exact skip e0 ha _ rfl hgv hT'
            | true =>
              rw [hmem] at h
              simp only [cond_true] at h
              cases hok : okDep ops i (depMask ops i) with
              | false => rw [hok] at h; cases h
              | true =>
                rw [hok] at h
                simp only [cond_true, Option.some.injEq] at h; subst h
                simp only [HTh, remember] at hT
                obtain ⟨e0, hle, hT⟩ := hT
                replace ha := ha.le hle
                rcases hT with ⟨hgv, v, hR, hT'⟩ | ⟨hgv, hT'⟩
                · have hdep := okDep_spec hok
                  have hinv : ∀ k, (depMask ops i).testBit k = true → listed.getD k false = false := by
                    exact dep_unlisted hil hcl
                  refine wpAnyS_first (T := fun w => RV P (hw w) e0 (trX P o) v) (R := fun j => (depMask ops i).testBit j) (E := fun j => (depMask ops i &&& E).testBit j) ho (Region.noSelect_spec hs) (hQ v) hdep
                    (fun k hk => by rw [Nat.testBit_and] at hk; simp at hk; exact hk.1) (by rw [Nat.testBit_and, hiE]; simp) Sp_set (Sp_back hiE hE) fuel listed a w hfr hinv hir
                    (.inl ⟨wanted_of ha hgs hgv, fun w' hw' => RV_run hw' ha.agr⟩) hS hR ?_
                  have hE' : ∀ p ∈ ((depMask ops i &&& E, fun h => RV P h e0 (trX P o) v) :: pend : Pn), ∀ k, p.1.testBit k = true → E.testBit k = true := by
                    intro p hp k hk
                    rcases List.mem_cons.1 hp with rfl | hp
                    · rw [Nat.testBit_and] at hk; simp at hk; exact hk.2
                    · exact hE p hp k hk
                  have hS' : Sp ((depMask ops i &&& E, fun h => RV P h e0 (trX P o) v) :: pend) (listed.setIfInBounds i true) w := by
                    intro p hp hk
                    rcases List.mem_cons.1 hp with rfl | hp
                    · exact hR
                    · exact Sp_set _ _ _ hS p hp hk
                  refine wpAnyS_mono (fun l w h => ⟨fun p hp => h p (List.mem_cons_of_mem _ hp), fun hk => h _ (List.mem_cons_self) hk⟩) _ _ _ _
                    (ih _ t' _ D _ _ w ht' hT' (ha.put hdo) hg hsz' hS' hE' hD' (hclset i hir))
                · exact skip e0 ha _ rfl hgv hT'
        · cases h
      · cases h
    · rename_i hnone
      obtain ⟨ts, hm, rfl⟩ := Option.map_eq_some_iff.1 h
      obtain ⟨hnil, hall⟩ := mapM_mem _ _ _ hm
      refine ⟨fun hr => ?_, fun i hi => ?_⟩
      · have := hnil.1 hr
        subst this
        obtain ⟨e0, hle, hK⟩ := hT
        exact ⟨e0, ha.le hle, hg, hK⟩
      · obtain ⟨y, hy, hf⟩ := hall i hi
        have hne : ts ≠ [] := fun hh => by rw [hh] at hy; cases hy
        have hTy := altL_all ts hne hT y hy
        split at hf
        · rename_i o ho
          split at hf
          · rename_i g t' hgs ht'
            simp only [Option.some.injEq] at hf; subst hf
            have hdo := dstOk_spec hd ho
            have hil : i < listed.size := by rw [hsz]; exact ready_lt hi
            have hsz' : (listed.setIfInBounds i true).size = ops.size := by simpa using hsz
            unfold wpOp
            simp only [ho]
            simp only [HTh] at hTy
            obtain ⟨e0, hle, hTy⟩ := hTy
            replace ha := ha.le hle
            rcases hTy with ⟨hgv, hT'⟩ | ⟨hgv, hT'⟩
            · rw [wanted_of ha hgs hgv]
              simp only [if_true]
              refine .inl (run_efX (hT' w rfl hg) ha.agr ?_)
              rintro v w' ⟨hg', hP, hT''⟩
              have hS' := Sp_of_Pnd (w := w') hD hil hP
              exact ⟨hS', ih _ t' pend _ _ _ w' ht' hT'' (ha.put hdo) hg' hsz' hS' hE (D_set hD hil) (hclset i hi)⟩
            · rw [wanted_of ha hgs hgv]
              simp only [Bool.false_eq_true, if_false]
              have hS' := Sp_set (pend := pend) listed i w hS
              exact ⟨hS', ih _ t' pend _ _ _ w ht' hT' (ha.put hdo) hg hsz' hS' hE (D_set hD hil) (hclset i hi)⟩
          · cases hf
        · cases hf
end
end Go.Dv

namespace Go.Dv
open Go

inductive MC where
  | skip
  | reg (t : MT)
  | seq (a b : MC)
  | cond (c : Operand) (a b : MC)
  | block (id : Nat) (b : MC)
  | loop (b : MC)
  | exit (id : Nat)
  | scope (b : MC)
  | label (l : Nat)
  | goto (l : Nat)
  | ret

def trC (P : Program) (n : Nat) : Code → Option MC
  | .skip => some .skip
  | .region _ ops draw => bif dstOk n ops then
      (bif draw then (bif Region.noSelect ops then (mkT P ops (effMask P ops) ops.size (Array.replicate ops.size false)).map MC.reg else none)
       else (seqT P ops (List.range ops.size)).map MC.reg)
    else none
  | .seq a b => match trC P n a, trC P n b with
    | some x, some y => some (.seq x y)
    | _, _ => none
  | .cond c a b => match trC P n a, trC P n b with
    | some x, some y => some (.cond c x y)
    | _, _ => none
  | .block id b => (trC P n b).map (.block id)
  | .loop b => (trC P n b).map .loop
  | .exit id => some (.exit id)
  | .scope b => (trC P n b).map .scope
  | .label l => some (.label l)
  | .goto l => some (.goto l)
  | .ret => some .ret
  | .rangeFunc .. => none
  | .refuse _ => none

abbrev Kx := Exit → Env → PH → Prop
def exQ (n : Nat) (gl : Gl) (K : Kx) : Exit → Act → World → Prop := fun x a w => ∃ e, Ag n e a ∧ okG gl w ∧ K x e (hw w)
def HM (P : Program) (n : Nat) (gl : Gl) (m : MC) (K : Kx) (e : Env) (h : PH) : Prop :=
  ∀ c, trC P n c = some m → ∀ a w, Ag n e a → hw w = h → okG gl w → c.wp P (exQ n gl K) a w
def seqK (k : Env → PH → Prop) (K : Kx) : Kx
  | .normal => k
  | x => K x
def blockK (id : Nat) (K : Kx) : Kx
  | .exit i => if i = id then K .normal else K (.exit i)
  | x => K x

section
variable {P : Program} {n : Nat} {gl : Gl} {K : Kx} {e : Env} {h : PH}

theorem tr_seq {c : Code} {x y : MC} (hc : trC P n c = some (.seq x y)) : ∃ a b, c = .seq a b ∧ trC P n a = some x ∧ trC P n b = some y := by
  cases c <;> simp only [trC] at hc
  case seq a b =>
    split at hc
    · rename_i x' y' h1 h2
      simp only [Option.some.injEq, MC.seq.injEq] at hc
      obtain ⟨rfl, rfl⟩ := hc
      exact ⟨a, b, rfl, h1, h2⟩
    · cases hc
  case region i ops d =>
    revert hc
    cases dstOk n ops <;> cases d <;> cases Region.noSelect ops <;> simp
  case cond => split at hc <;> cases hc
  all_goals (simp at hc)

theorem tr_reg {c : Code} {t : MT} (hc : trC P n c = some (.reg t)) : ∃ id ops d, c = .region id ops d ∧ dstOk n ops = true ∧
    ((d = true ∧ Region.noSelect ops = true ∧ mkT P ops (effMask P ops) ops.size (Array.replicate ops.size false) = some t) ∨ (d = false ∧ seqT P ops (List.range ops.size) = some t)) := by
  cases c <;> simp only [trC] at hc
  case region i ops d =>
    cases hd : dstOk n ops with
    | false => rw [hd] at hc; cases hc
    | true =>
      rw [hd] at hc
      cases d with
      | true =>
        simp only [cond_true] at hc
        cases hs : Region.noSelect ops with
        | false => rw [hs] at hc; cases hc
        | true =>
          rw [hs] at hc
          simp only [cond_true, Option.map_eq_some_iff, MC.reg.injEq, exists_eq_right] at hc
          exact ⟨i, ops, true, rfl, hd, .inl ⟨rfl, hs, hc⟩⟩
      | false =>
        simp only [cond_true, cond_false, Option.map_eq_some_iff, MC.reg.injEq, exists_eq_right] at hc
        exact ⟨i, ops, false, rfl, hd, .inr ⟨rfl, hc⟩⟩
  case seq => split at hc <;> cases hc
  case cond => split at hc <;> cases hc
  all_goals (simp at hc)

theorem tr_cond {c : Code} {o : Operand} {x y : MC} (hc : trC P n c = some (.cond o x y)) : ∃ a b, c = .cond o a b ∧ trC P n a = some x ∧ trC P n b = some y := by
  cases c <;> simp only [trC] at hc
  case cond o' a b =>
    split at hc
    · rename_i x' y' h1 h2
      simp only [Option.some.injEq, MC.cond.injEq] at hc
      obtain ⟨rfl, rfl, rfl⟩ := hc
      exact ⟨a, b, rfl, h1, h2⟩
    · cases hc
  case region i ops d =>
    revert hc
    cases dstOk n ops <;> cases d <;> cases Region.noSelect ops <;> simp
  case seq => split at hc <;> cases hc
  all_goals (simp at hc)

theorem tr_simple {c : Code} {m : MC} (hc : trC P n c = some m) :
    (m = .skip → c = .skip) ∧ (m = .ret → c = .ret) ∧ (∀ i, m = .exit i → c = .exit i) ∧ (∀ i, m = .label i → c = .label i) ∧ (∀ i, m = .goto i → c = .goto i) ∧
    (∀ i b, m = .block i b → ∃ b', c = .block i b' ∧ trC P n b' = some b) ∧ (∀ b, m = .loop b → ∃ b', c = .loop b' ∧ trC P n b' = some b) ∧ (∀ b, m = .scope b → ∃ b', c = .scope b' ∧ trC P n b' = some b) := by
  cases c <;> simp only [trC] at hc
  case region i ops d =>
    have hreg : ∃ t, m = .reg t := by
      revert hc
      cases dstOk n ops <;> cases d <;> cases Region.noSelect ops <;> simp <;> (intro t _ ht; exact ⟨t, ht.symm⟩)
    obtain ⟨t, rfl⟩ := hreg
    simp
  case seq => split at hc <;> first | (cases hc; done) | (simp only [Option.some.injEq] at hc; subst hc; simp)
  case cond => split at hc <;> first | (cases hc; done) | (simp only [Option.some.injEq] at hc; subst hc; simp)
  all_goals first
    | (cases hc; done)
    | (simp only [Option.some.injEq] at hc; subst hc; simp; done)
    | (rw [Option.map_eq_some_iff] at hc; obtain ⟨t, ht, rfl⟩ := hc; simp [ht])

theorem hm_skip (hk : K .normal e h) : HM P n gl .skip K e h := by
  rintro c hc a w ha rfl hg
  obtain rfl := (tr_simple hc).1 rfl
  exact wp_skip ⟨e, ha, hg, hk⟩
theorem hm_ret (hk : K .ret e h) : HM P n gl .ret K e h := by
  rintro c hc a w ha rfl hg
  obtain rfl := (tr_simple hc).2.1 rfl
  exact wp_ret ⟨e, ha, hg, hk⟩
theorem hm_exit {i : Nat} (hk : K (.exit i) e h) : HM P n gl (.exit i) K e h := by
  rintro c hc a w ha rfl hg
  obtain rfl := (tr_simple hc).2.2.1 i rfl
  exact wp_exit ⟨e, ha, hg, hk⟩
theorem hm_label {i : Nat} (hk : K .normal e h) : HM P n gl (.label i) K e h := by
  rintro c hc a w ha rfl hg
  obtain rfl := (tr_simple hc).2.2.2.1 i rfl
  exact wp_label ⟨e, ha, hg, hk⟩
theorem hm_goto {i : Nat} (hk : K (.goto i) e h) : HM P n gl (.goto i) K e h := by
  rintro c hc a w ha rfl hg
  obtain rfl := (tr_simple hc).2.2.2.2.1 i rfl
  exact wp_goto ⟨e, ha, hg, hk⟩
theorem hm_mono {m : MC} {K' : Kx} (hk : ∀ x e h, K' x e h → K x e h) (hm : HM P n gl m K' e h) : HM P n gl m K e h :=
  fun c hc a w ha hh hg => wp_mono (hm c hc a w ha hh hg) fun _ _ _ ⟨e, h1, h2, h3⟩ => ⟨e, h1, h2, hk _ _ _ h3⟩
theorem hm_seq {x y : MC} (hm : HM P n gl x (seqK (HM P n gl y K) K) e h) : HM P n gl (.seq x y) K e h := by
  rintro c hc a w ha rfl hg
  obtain ⟨cx, cy, rfl, hx, hy⟩ := tr_seq hc
  refine wp_seq (wp_mono (hm cx hx a w ha rfl hg) ?_)
  rintro ex a' w' ⟨e', ha', hg', hk⟩
  cases ex with
  | normal => exact hk cy hy a' w' ha' rfl hg'
  | _ => exact ⟨e', ha', hg', hk⟩
theorem hm_cond {o : Operand} {x y : MC} {b : Bool} (ho : ev e o = some (.bool b)) (h1 : b = true → HM P n gl x K e h) (h2 : b = false → HM P n gl y K e h) : HM P n gl (.cond o x y) K e h := by
  rintro c hc a w ha rfl hg
  obtain ⟨cx, cy, rfl, hx, hy⟩ := tr_cond hc
  exact wp_cond_split (ha.agr _ _ ho) (fun hb => h1 hb cx hx a w ha rfl hg) (fun hb => h2 hb cy hy a w ha rfl hg)
theorem hm_block {i : Nat} {b : MC} (hm : HM P n gl b (blockK i K) e h) : HM P n gl (.block i b) K e h := by
  rintro c hc a w ha rfl hg
  obtain ⟨b', rfl, hb⟩ := (tr_simple hc).2.2.2.2.2.1 i b rfl
  refine wp_block (wp_mono (hm b' hb a w ha rfl hg) ?_)
  rintro ex a' w' ⟨e', ha', hg', hk⟩
  cases ex with
  | exit j =>
    simp only [Exit.inBlock, blockK] at hk ⊢
    split
    · rename_i hj; rw [if_pos hj] at hk; exact ⟨e', ha', hg', hk⟩
    · rename_i hj; rw [if_neg hj] at hk; exact ⟨e', ha', hg', hk⟩
  | _ => exact ⟨e', ha', hg', hk⟩

theorem wp_loop_g {α : Type} {Q : Exit → Act → World → Prop} {c : Code} (I : α → Act → World → Prop) (μ : α → Nat)
    (round : ∀ x a w, I x a w → c.wp P (Exit.then (fun a' w' => ∃ y, μ y < μ x ∧ I y a' w') Q) a w) (x : α) (a : Act) (w : World) (h₀ : I x a w) : (Code.loop c).wp P Q a w := by
  intro b k cs
  have key : ∀ n x a w, μ x = n → I x a w →
      ∃ e a' w', Q e a' w' ∧ Arrives P (lone (b.at a (.code c :: .inLoop c :: k)) cs w) b k cs e a' w' := by
    intro n
    induction n using Nat.strongRecOn with
    | _ n ih =>
      intro x a w hn hI
      obtain ⟨e, a₁, w₁, hq, harr⟩ := round x a w hI b (.inLoop c :: k) cs
      cases e with
      | normal =>
        obtain ⟨y, hlt, hI₁⟩ := hq
        obtain ⟨e₂, a₂, w₂, hq₂, harr₂⟩ := ih (μ y) (hn ▸ hlt) y a₁ w₁ rfl hI₁
        exact ⟨e₂, a₂, w₂, hq₂, .of_steps (Steps.trans harr (.one step_inLoop)) harr₂⟩
      | exit id => exact ⟨_, a₁, w₁, hq, .pass (x := .inLoop c) rfl (fun _ _ => .inl (by simp)) harr⟩
      | goto l => exact ⟨_, a₁, w₁, hq, .pass (x := .inLoop c) rfl (fun _ _ => .inl (by simp)) harr⟩
      | ret => exact ⟨_, a₁, w₁, hq, .pass (x := .inLoop c) rfl (fun _ _ => .inl (by simp)) harr⟩
      | panic ch => exact ⟨_, a₁, w₁, hq, .pass (x := .inLoop c) rfl (fun _ _ => .inl (by simp)) harr⟩
      | outgrown => exact ⟨_, a₁, w₁, hq, .pass (x := .inLoop c) rfl (fun _ _ => .inl (by simp)) harr⟩
  obtain ⟨e, a', w', hq, harr⟩ := key _ x a w rfl h₀
  exact ⟨e, a', w', hq, .of_steps (.one step_loop) harr⟩

theorem hm_loop {α : Type} {b : MC} (I : α → Env → PH → Prop) (μ : α → Nat) (x0 : α) (h0 : I x0 e h)
    (round : ∀ x e h, I x e h → HM P n gl b (seqK (fun e' h' => ∃ y, μ y < μ x ∧ I y e' h') K) e h) : HM P n gl (.loop b) K e h := by
  rintro c hc a w ha rfl hg
  obtain ⟨b', rfl, hb⟩ := (tr_simple hc).2.2.2.2.2.2.1 b rfl
  refine wp_loop_g (fun x a w => ∃ e, Ag n e a ∧ okG gl w ∧ I x e (hw w)) μ ?_ x0 a w ⟨e, ha, hg, h0⟩
  rintro x a w ⟨e, ha, hg, hI⟩
  refine wp_mono (round x e _ hI b' hb a w ha rfl hg) ?_
  rintro ex a' w' ⟨e', ha', hg', hk⟩
  cases ex with
  | normal => obtain ⟨y, hlt, hy⟩ := hk; exact ⟨y, hlt, e', ha', hg', hy⟩
  | _ => exact ⟨e', ha', hg', hk⟩

theorem hm_reg {t : MT} (hm : P.follows .mixedOrders = true) (ht : HTh P gl (K .normal) t [] 0 e h) : HM P n gl (.reg t) K e h := by
  rintro c hc a w ha rfl hg
  obtain ⟨id, ops, d, rfl, hd, hor⟩ := tr_reg hc
  have hq : ∀ x a w, endQ n gl (K .normal) x a w → exQ n gl K x a w := by
    intro x a w hx
    cases x with
    | normal => obtain ⟨e, h1, h2, h3⟩ := hx; exact ⟨e, h1, h2, h3⟩
    | _ => exact hx.elim
  rcases hor with ⟨rfl, hs, htt⟩ | ⟨rfl, htt⟩
  · refine wp_mono (wp_region_any hm ?_) hq
    refine wpAny_of_S (S := Sp []) _ _ _ _ ?_
    refine mkT_sound hd hs ops.size _ t [] 0 e a _ htt ht ha ⟨hg.1, hg.2⟩ (by simp) (fun p hp => by cases hp) (fun p hp => by cases hp) (fun k hk => by simp at hk) ?_
    intro k j oj _ _ hj
    simp only [Array.getD_eq_getD_getElem?, Array.getElem?_replicate] at hj
    split at hj <;> simp at hj
  · exact wp_mono (wp_region (seq_sound hd _ t 0 e a w htt ht ha hg)) hq
end
end Go.Dv

namespace Go.Dv
open Go

def findM : MC → Nat → Option MC
  | .seq a b, l => match findM a l with
    | some r => some (.seq r b)
    | none => findM b l
  | .label l', l => if l' == l then some .skip else none
  | _, _ => none
def scopeK (b : MC) (J : Nat → Env → PH → Prop) (K : Kx) : Kx
  | .goto l => fun e h => (findM b l ≠ none ∧ J l e h) ∨ (findM b l = none ∧ K (.goto l) e h)
  | x => K x

section
variable {P : Program} {n : Nat} {gl : Gl} {K : Kx} {e : Env} {h : PH}

theorem tr_find : ∀ (c : Code) (m : MC) (l : Nat), trC P n c = some m → (findLabel c l = none → findM m l = none) ∧ ∀ rest, findLabel c l = some rest → ∃ mr, findM m l = some mr ∧ trC P n rest = some mr := by
  intro c
  induction c with
  | seq a b iha ihb =>
    intro m l hm
    simp only [trC] at hm
    split at hm
    · rename_i x y h1 h2
      simp only [Option.some.injEq] at hm; subst hm
      obtain ⟨a1, a2⟩ := iha x l h1
      obtain ⟨b1, b2⟩ := ihb y l h2
      constructor
      · intro hf
        simp only [findLabel] at hf
        split at hf
        · cases hf
        · rename_i hfa
          simp only [findM, a1 hfa]; exact b1 hf
      · intro rest hf
        simp only [findLabel] at hf
        split at hf
        · rename_i r hfa
          simp only [Option.some.injEq] at hf; subst hf
          obtain ⟨mr, e1, e2⟩ := a2 r hfa
          exact ⟨.seq mr y, by simp [findM, e1], by simp [trC, e2, h2]⟩
        · rename_i hfa
          obtain ⟨mr, e1, e2⟩ := b2 rest hf
          exact ⟨mr, by simp [findM, a1 hfa, e1], e2⟩
    · cases hm
  | label l' =>
    intro m l hm
    simp only [trC, Option.some.injEq] at hm; subst hm
    simp only [findLabel, findM]
    split <;> simp [trC]
  | region i ops d =>
    intro m l hm
    obtain ⟨t, rfl⟩ : ∃ t, m = .reg t := by
      revert hm
      simp only [trC]
      cases dstOk n ops <;> cases d <;> cases Region.noSelect ops <;> simp <;> (intro t _ ht; exact ⟨t, ht.symm⟩)
    simp [findLabel, findM]
  | cond o a b =>
    intro m l hm
    simp only [trC] at hm
    split at hm
    · simp only [Option.some.injEq] at hm; subst hm; simp [findLabel, findM]
    · cases hm
  | block i b => intro m l hm; simp only [trC, Option.map_eq_some_iff] at hm; obtain ⟨t, _, rfl⟩ := hm; simp [findLabel, findM]
  | loop b => intro m l hm; simp only [trC, Option.map_eq_some_iff] at hm; obtain ⟨t, _, rfl⟩ := hm; simp [findLabel, findM]
  | scope b => intro m l hm; simp only [trC, Option.map_eq_some_iff] at hm; obtain ⟨t, _, rfl⟩ := hm; simp [findLabel, findM]
  | rangeFunc f ps as b => intro m l hm; cases hm
  | refuse y => intro m l hm; cases hm
  | _ => intro m l hm; simp only [trC, Option.some.injEq] at hm; subst hm; simp [findLabel, findM]

def jumpQ (c : Code) (J : Nat → Act → World → Prop) (Q : Exit → Act → World → Prop) : Exit → Act → World → Prop
  | .goto l, a, w => (findLabel c l ≠ none ∧ J l a w) ∨ (findLabel c l = none ∧ Q (.goto l) a w)
  | x, a, w => Q x a w

theorem wp_scope_m {α : Type} {Q : Exit → Act → World → Prop} {c : Code} (I : α → Nat → Act → World → Prop) (μ : α → Nat) {a : Act} {w : World}
    (first : c.wp P (jumpQ c (fun l a w => ∃ y, I y l a w) Q) a w)
    (pass : ∀ x l rest a w, findLabel c l = some rest → I x l a w → rest.wp P (jumpQ c (fun l a w => ∃ y, μ y < μ x ∧ I y l a w) Q) a w) : (Code.scope c).wp P Q a w := by
  intro b k cs
  have hgo : ∀ l rest, findLabel c l = some rest → gotoIn l (.inScope c :: k) = some (.code rest :: .inScope c :: k) := by
    intro l rest hf; simp [gotoIn, hf]
  have hgn : ∀ l, findLabel c l = none → gotoIn l (.inScope c :: k) = gotoIn l k := by
    intro l hf; simp [gotoIn, hf]
  have key : ∀ n x l rest a w, μ x = n → findLabel c l = some rest → I x l a w → ∃ e a' w', Q e a' w' ∧ Arrives P (lone (b.at a (.code rest :: .inScope c :: k)) cs w) b k cs e a' w' := by
    intro n
    induction n using Nat.strongRecOn with
    | _ n ih =>
      intro x l rest a w hn hf hI
      obtain ⟨e, a₁, w₁, hq, harr⟩ := pass x l rest a w hf hI b (.inScope c :: k) cs
      cases e with
      | normal => exact ⟨.normal, a₁, w₁, hq, Steps.trans harr (.one step_inScope)⟩
      | exit id => exact ⟨.exit id, a₁, w₁, hq, fun k' hk => harr k' (by simp [exitTo, hk])⟩
      | goto l' =>
        rcases hq with ⟨hne, y, hlt, hy⟩ | ⟨hno, hq⟩
        · cases hf' : findLabel c l' with
          | none => exact absurd hf' hne
          | some rest' =>
            obtain ⟨e₂, a₂, w₂, hq₂, harr₂⟩ := ih (μ y) (hn ▸ hlt) y l' rest' a₁ w₁ rfl hf' hy
            exact ⟨e₂, a₂, w₂, hq₂, .of_steps (harr _ (hgo l' rest' hf')) harr₂⟩
        · exact ⟨.goto l', a₁, w₁, hq, fun k' hk => harr k' (by rw [hgn l' hno]; exact hk)⟩
      | ret => exact ⟨_, a₁, w₁, hq, harr⟩
      | panic ch => exact ⟨_, a₁, w₁, hq, harr⟩
      | outgrown => exact ⟨_, a₁, w₁, hq, harr⟩
  obtain ⟨e, a₁, w₁, hq, harr⟩ := first b (.inScope c :: k) cs
  cases e with
  | normal => exact ⟨.normal, a₁, w₁, hq, .head step_scope (Steps.trans harr (.one step_inScope))⟩
  | exit id => exact ⟨.exit id, a₁, w₁, hq, fun k' hk => .head step_scope (harr k' (by simp [exitTo, hk]))⟩
  | goto l' =>
    rcases hq with ⟨hne, y, hy⟩ | ⟨hno, hq⟩
    · cases hf' : findLabel c l' with
      | none => exact absurd hf' hne
      | some rest' =>
        obtain ⟨e₂, a₂, w₂, hq₂, harr₂⟩ := key _ y l' rest' a₁ w₁ rfl hf' hy
        exact ⟨e₂, a₂, w₂, hq₂, .of_steps (.head step_scope (harr _ (hgo l' rest' hf'))) harr₂⟩
    · exact ⟨.goto l', a₁, w₁, hq, fun k' hk => .head step_scope (harr k' (by rw [hgn l' hno]; exact hk))⟩
  | ret => exact ⟨_, a₁, w₁, hq, .of_steps (.one step_scope) harr⟩
  | panic ch => exact ⟨_, a₁, w₁, hq, .of_steps (.one step_scope) harr⟩
  | outgrown => exact ⟨_, a₁, w₁, hq, .of_steps (.one step_scope) harr⟩

theorem hm_scope {α : Type} {b : MC} (I : α → Nat → Env → PH → Prop) (μ : α → Nat)
    (first : HM P n gl b (scopeK b (fun l e h => ∃ y, I y l e h) K) e h)
    (pass : ∀ x l mr e h, findM b l = some mr → I x l e h → HM P n gl mr (scopeK b (fun l e h => ∃ y, μ y < μ x ∧ I y l e h) K) e h) : HM P n gl (.scope b) K e h := by
  rintro c hc a w ha rfl hg
  obtain ⟨b', rfl, hb⟩ := (tr_simple hc).2.2.2.2.2.2.2 b rfl
  have conv : ∀ (J : Nat → Env → PH → Prop) ex a w, exQ n gl (scopeK b J K) ex a w → jumpQ b' (fun l a w => ∃ e, Ag n e a ∧ okG gl w ∧ J l e (hw w)) (exQ n gl K) ex a w := by
    rintro J ex a w ⟨e, h1, h2, h3⟩
    cases ex with
    | goto l =>
      simp only [scopeK] at h3
      simp only [jumpQ]
      obtain ⟨t1, t2⟩ := tr_find b' b l hb
      rcases h3 with ⟨hne, hj⟩ | ⟨hno, hk⟩
      · refine .inl ⟨fun hh => hne (t1 hh), e, h1, h2, hj⟩
      · refine .inr ⟨?_, e, h1, h2, hk⟩
        cases hf : findLabel b' l with
        | none => rfl
        | some rest => obtain ⟨mr, e1, _⟩ := t2 rest hf; rw [hno] at e1; cases e1
    | _ => exact ⟨e, h1, h2, h3⟩
  have mono : ∀ (J J' : Nat → Act → World → Prop) ex a w, (∀ l a w, J l a w → J' l a w) → jumpQ b' J (exQ n gl K) ex a w → jumpQ b' J' (exQ n gl K) ex a w := by
    intro J J' ex a w hJ hx
    cases ex with
    | goto l => exact hx.imp (fun ⟨h1, h2⟩ => ⟨h1, hJ _ _ _ h2⟩) id
    | _ => exact hx
  refine wp_scope_m (fun x l a w => ∃ e, Ag n e a ∧ okG gl w ∧ I x l e (hw w)) μ ?_ ?_
  · refine wp_mono (first b' hb a w ha rfl hg) fun ex a w hx => mono _ _ ex a w ?_ (conv _ ex a w hx)
    rintro l a w ⟨e, h1, h2, y, h3⟩
    exact ⟨y, e, h1, h2, h3⟩
  · rintro x l rest a w hf ⟨e, h1, h2, h3⟩
    obtain ⟨mr, e1, e2⟩ := (tr_find b' b l hb).2 rest hf
    refine wp_mono (pass x l mr e _ e1 h3 rest e2 a w h1 rfl h2) fun ex a w hx => mono _ _ ex a w ?_ (conv _ ex a w hx)
    rintro l a w ⟨e, h1, h2, y, hlt, h3⟩
    exact ⟨y, hlt, e, h1, h2, h3⟩
end

/-! ### functions -/
abbrev MRes := Nat × Option (Option Nat)
structure MF where
  n : Nat
  res : List MRes
  body : MC
def trR (P : Program) : List ResultVar → Option (List MRes)
  | [] => some []
  | .tmp t :: r => (trR P r).map ((t, none) :: ·)
  | .cell a t :: r => match aggT P t, trR P r with
    | some k, some l => some ((a, some k) :: l)
    | _, _ => none
def trF (P : Program) (f : FuncId) : Option MF := match P.funcs[f]? with
  | some fn => match fn.body with
    | some c => match trC P fn.ntmps c, trR P fn.results.toList with
      | some m, some r => some ⟨fn.ntmps, r, m⟩
      | _, _ => none
    | none => none
  | none => none
def res1 (h : PH) (e : Env) : MRes → Option Value
  | (t, none) => e.get t
  | (a, some k) => match e.get a with
    | some (.pointer (some ⟨b, o, none⟩)) => match h b with
      | some (.cells c _ _) => atCells k c.toList o
      | _ => none
    | _ => none
def resV (h : PH) (e : Env) : List MRes → Option (List Value)
  | [] => some []
  | r :: rs => match res1 h e r, resV h e rs with
    | some v, some vs => some (v :: vs)
    | _, _ => none
def mkRes : List Value → Value
  | [v] => v
  | vs => .tuple vs.toArray
def retK (res : List MRes) (R : Value → PH → Prop) : Kx
  | .normal => fun e h => ∃ vs, resV h e res = some vs ∧ R (mkRes vs) h
  | .ret => fun e h => ∃ vs, resV h e res = some vs ∧ R (mkRes vs) h
  | _ => fun _ _ => False
def argEnv : Nat → List Value → Env
  | _, [] => []
  | i, v :: vs => (i, v) :: argEnv (i + 1) vs

section
variable {P : Program} {gl : Gl}

theorem argEnv_get : ∀ (vs : List Value) (i t : Nat) (v : Value), (argEnv i vs).get t = some v → i ≤ t ∧ vs[t - i]? = some v
  | [], i, t, v, h => by simp [argEnv, Env.get] at h
  | u :: vs, i, t, v, h => by
    simp only [argEnv, Env.get] at h
    cases hb : Nat.beq i t with
    | true =>
      rw [hb] at h
      simp only [cond_true, Option.some.injEq] at h
      have := Nat.eq_of_beq_eq_true hb
      subst this
      simp [h]
    | false =>
      rw [hb] at h
      obtain ⟨h1, h2⟩ := argEnv_get vs (i + 1) t v h
      refine ⟨by omega, ?_⟩
      rw [show t - i = (t - (i + 1)) + 1 from by omega, List.getElem?_cons_succ]
      exact h2

def resF (tmps : Array Value) : ResultVar → Sem Value
  | .tmp t => pure (tmps.getD t undef)
  | .cell x t => do loadVar t (← asAddr (tmps.getD x undef))
theorem results_resF (fn : Func) (tmps : Array Value) : results fn tmps = (do
    let vs ← fn.results.mapM (resF tmps)
    pure (if h : vs.size = 1 then vs[0] else .tuple vs)) := by
  unfold results
  congr 1

theorem run_res {n : Nat} {e : Env} {a : Act} (ha : Ag n e a) (w : World) : ∀ (rs : List ResultVar) (ms : List MRes) (vs : List Value), trR P rs = some ms → resV (hw w) e ms = some vs →
    (rs.mapM (resF a.tmps)).run P w = .ok vs w
  | [], ms, vs, h, hv => by
    simp only [trR, Option.some.injEq] at h; subst h
    simp only [resV, Option.some.injEq] at hv; subst hv
    simp
  | .tmp t :: rs, ms, vs, h, hv => by
    simp only [trR, Option.map_eq_some_iff] at h
    obtain ⟨ms', h', rfl⟩ := h
    simp only [resV, res1] at hv
    split at hv
    · rename_i v vs' h1 h2
      simp only [Option.some.injEq] at hv; subst hv
      have := ha.2.2 _ _ h1
      have ih := run_res ha w rs ms' vs' h' h2
      have e1 : (resF a.tmps (.tmp t)).run P w = .ok v w := by simp [resF, this]
      simp only [List.mapM_cons, Sem.run_bind, e1, Result.andThen_ok, ih, Sem.run_pure]
    · cases hv
  | .cell x t :: rs, ms, vs, h, hv => by
    simp only [trR] at h
    split at h
    · rename_i k l hk hl
      simp only [Option.some.injEq] at h; subst h
      simp only [resV, res1] at hv
      split at hv
      · rename_i v vs' h1 h2
        simp only [Option.some.injEq] at hv; subst hv
        split at h1
        · rename_i b o hp
          split at h1
          · rename_i c T fz hb
            have := ha.2.2 _ _ hp
            have ih := run_res ha w rs l vs' hl h2
            have hld := run_loadAgg (P := P) hk hb h1
            have e1 : (resF a.tmps (.cell x t)).run P w = .ok v w := by simp [resF, this, asAddr, hld]
            simp only [List.mapM_cons, Sem.run_bind, e1, Result.andThen_ok, ih, Sem.run_pure]
          · cases h1
        · cases h1
      · cases hv
    · cases h

theorem calls_of_HM {f : FuncId} {F : MF} {args : List Value} {w : World} {R : Value → PH → Prop} (hF : trF P f = some F) (hn : args.length ≤ F.n) (hg : okG gl w)
    (hm : HM P F.n gl F.body (retK F.res R) (argEnv 0 args) (hw w)) : callsR P f args.toArray w fun v w' => okG gl w' ∧ R v (hw w') := by
  unfold trF at hF
  split at hF
  · rename_i fn hfn
    split at hF
    · rename_i c hc
      split at hF
      · rename_i m r h1 h2
        simp only [Option.some.injEq] at hF; subst hF
        simp only at hn hm
        refine calls_of_wp hfn hc ?_
        have ha : Ag fn.ntmps (argEnv 0 args) { tmps := args.toArray ++ Array.replicate (fn.ntmps - args.toArray.size) undef, defers := [] } := by
          refine ⟨rfl, by simp; omega, fun t v ht => ?_⟩
          obtain ⟨_, h⟩ := argEnv_get args 0 t v ht
          simp only [Nat.sub_zero] at h
          have hlt := (List.getElem?_eq_some_iff.1 h).1
          rw [Array.getElem?_append_left (by simpa using hlt)]
          simpa using h
        refine wp_mono (hm c h1 _ w ha rfl hg) ?_
        have fin : ∀ a w e, Ag fn.ntmps e a → okG gl w → (∃ vs, resV (hw w) e r = some vs ∧ R (mkRes vs) (hw w)) →
            a.defers = [] ∧ ∃ v, (results fn a.tmps).run P w = .ok v w ∧ ∃ v', Ending.returned v = .returned v' ∧ okG gl w ∧ R v' (hw w) := by
          rintro a w e ha hg ⟨vs, hvs, hR⟩
          refine ⟨ha.1, mkRes vs, ?_, _, rfl, hg, hR⟩
          have := run_res ha w fn.results.toList r vs h2 hvs
          rw [results_resF]
          simp only [Sem.run_bind]
          have e1 : (fn.results.mapM (resF a.tmps)).run P w = .ok vs.toArray w := by
            rw [Array.mapM_eq_mapM_toList]
            simp only [Sem.run_map, this, Result.andThen_ok]
          rw [e1]
          simp only [Result.andThen_ok, Sem.run_pure]
          congr 1
          match vs with
          | [] => rfl
          | [v] => rfl
          | v :: u :: vs => rfl
        rintro ex a w ⟨e, h1, h2, h3⟩
        cases ex with
        | normal => exact fin a w e h1 h2 h3
        | ret => exact fin a w e h1 h2 h3
        | _ => exact h3.elim
      · cases hF
    · cases hF
  · cases hF
end
theorem retK_ret (res : List MRes) (R : Value → PH → Prop) : retK res R .ret = fun e h => ∃ vs, resV h e res = some vs ∧ R (mkRes vs) h := rfl
theorem retK_normal (res : List MRes) (R : Value → PH → Prop) : retK res R .normal = fun e h => ∃ vs, resV h e res = some vs ∧ R (mkRes vs) h := rfl
attribute [irreducible] retK
end Go.Dv

/- What lies in memory, part by part. -/
namespace Go.Dv
open Go

abbrev HP := PH → Prop
def Sep : List HP → PH → Prop
  | [], _ => True
  | p :: ps, h => ∃ h1 h2 : PH, (∀ b, h1 b = none ∨ h2 b = none) ∧ (∀ b, h b = (h1 b).or (h2 b)) ∧ p h1 ∧ Sep ps h2

inductive Pk : List HP → HP → List HP → Prop
  | h {x l} : Pk (x :: l) x l
  | t {x y l r} : Pk l x r → Pk (y :: l) x (y :: r)
inductive Sx : List HP → List HP → List HP → Prop
  | nil {l} : Sx l [] l
  | cons {l x r xs r'} : Pk l x r → Sx r xs r' → Sx l (x :: xs) r'

def Cl (b : Nat) (T : TypeId) (cs : List Value) : HP := fun h => h b = some (.cells cs.toArray T (0, 0))

theorem or_none {α : Type} (x : Option α) : x.or none = x := by cases x <;> rfl

theorem sep_swap {p q : HP} {l : List HP} {h : PH} (hs : Sep (p :: q :: l) h) : Sep (q :: p :: l) h := by
  obtain ⟨h1, h2, d, u, hp, h3, h4, d', u', hq, hl⟩ := hs
  refine ⟨h3, fun b => (h1 b).or (h4 b), fun b => ?_, fun b => ?_, hq, h1, h4, fun b => ?_, fun b => rfl, hp, hl⟩
  · have a1 := d b; have a2 := d' b; have a3 := u' b
    rw [a3] at a1
    cases e1 : h1 b <;> cases e3 : h3 b <;> cases e4 : h4 b <;> simp_all
  · have a1 := d b; have a2 := d' b; have a3 := u' b; have a4 := u b
    rw [a4, a3]
    rw [a3] at a1
    cases e1 : h1 b <;> cases e3 : h3 b <;> cases e4 : h4 b <;> simp_all
  · have a1 := d b; have a3 := u' b
    rw [a3] at a1
    cases e1 : h1 b <;> cases e3 : h3 b <;> cases e4 : h4 b <;> simp_all

theorem sep_tail {p : HP} {l l' : List HP} (hl : ∀ h, Sep l h → Sep l' h) {h : PH} (hs : Sep (p :: l) h) : Sep (p :: l') h := by
  obtain ⟨h1, h2, d, u, hp, hr⟩ := hs
  exact ⟨h1, h2, d, u, hp, hl _ hr⟩

theorem sep_drop {p : HP} {l : List HP} {h : PH} (hs : Sep (p :: l) h) : ∃ h', Sep l h' ∧ ∀ b o, h' b = some o → h b = some o := by
  obtain ⟨h1, h2, d, u, hp, hr⟩ := hs
  refine ⟨h2, hr, fun b o hb => ?_⟩
  have a1 := d b; have a4 := u b
  rw [hb] at a1 a4
  rcases a1 with a1 | a1
  · rw [a4, a1]; rfl
  · cases a1

theorem Pk.out {l r : List HP} {x : HP} (hp : Pk l x r) : ∀ {h}, Sep l h → Sep (x :: r) h := by
  induction hp with
  | h => intro h hs; exact hs
  | t _ ih => intro h hs; exact sep_swap (sep_tail (fun _ => ih) hs)
theorem Pk.back {l r : List HP} {x : HP} (hp : Pk l x r) : ∀ {h}, Sep (x :: r) h → Sep l h := by
  induction hp with
  | h => intro h hs; exact hs
  | t _ ih => intro h hs; exact sep_tail (fun _ => ih) (sep_swap hs)
theorem Sx.out {l xs r : List HP} (hx : Sx l xs r) : ∀ {h}, Sep l h → Sep (xs ++ r) h := by
  induction hx with
  | nil => intro h hs; exact hs
  | cons hp _ ih => intro h hs; exact sep_tail (fun _ => ih) (hp.out hs)
theorem sep_app_one {xs ys : List HP} : ∀ {h : PH}, Sep (xs ++ ys) h → Sep (xs ++ [Sep ys]) h := by
  induction xs with
  | nil => intro h hs; exact ⟨h, fun _ => none, fun b => .inr rfl, fun b => (or_none _).symm, hs, trivial⟩
  | cons x xs ih => intro h hs; exact sep_tail (fun _ => ih) hs
/-- a part of memory that is larger does no harm -/
theorem sep_mono : ∀ {l : List HP} {h h' : PH}, Sep l h → (∀ b o, h b = some o → h' b = some o) → Sep l h'
  | [], _, _, _, _ => trivial
  | p :: l, h, h', ⟨h1, h2, d, u, hp, hl⟩, hs => by
    refine ⟨h1, fun b => if (h1 b).isSome then none else h' b, fun b => ?_, fun b => ?_, hp, sep_mono hl ?_⟩
    · cases e : h1 b <;> simp [e]
    · cases e : h1 b with
      | none => simp [e]
      | some o =>
        have := u b
        rw [e] at this
        simpa [e] using hs b o (by rw [this]; rfl)
    · intro b o hb
      have hd := d b
      rw [hb] at hd
      have h1n : h1 b = none := by rcases hd with hd | hd; exact hd; cases hd
      have := u b
      rw [h1n, hb] at this
      simp [h1n, hs b o this]
theorem sep_one_sub {xs ys : List HP} : ∀ {h : PH}, Sep (xs ++ [Sep ys]) h → ∃ h', Sep (xs ++ ys) h' ∧ ∀ b o, h' b = some o → h b = some o := by
  induction xs with
  | nil =>
    intro h hs
    obtain ⟨h1, h2, d, u, hp, _⟩ := hs
    refine ⟨h1, hp, fun b o hb => ?_⟩
    rw [u b, hb]; rfl
  | cons x xs ih =>
    intro h hs
    obtain ⟨h1, h2, d, u, hp, hr⟩ := hs
    obtain ⟨h', hs', hsub⟩ := ih hr
    refine ⟨fun b => (h1 b).or (h' b), ⟨h1, h', fun b => ?_, fun b => rfl, hp, hs'⟩, fun b o hb => ?_⟩
    · cases e : h' b with
      | none => exact .inr rfl
      | some o =>
        have := hsub b o e
        rcases d b with hd | hd
        · exact .inl hd
        · rw [this] at hd; cases hd
    · rw [u b]
      replace hb : (h1 b).or (h' b) = some o := hb
      cases e1 : h1 b with
      | none =>
        rw [e1] at hb
        simp only [Option.none_or] at hb ⊢
        exact hsub b o hb
      | some o' => rw [e1] at hb; simpa using hb
theorem sep_one_app {xs ys : List HP} {h : PH} (hs : Sep (xs ++ [Sep ys]) h) : Sep (xs ++ ys) h := by
  obtain ⟨h', h1, h2⟩ := sep_one_sub hs
  exact sep_mono h1 h2
theorem sep_right {xs ys : List HP} {h : PH} (hs : Sep (xs ++ ys) h) : Sep ys h := by
  induction xs generalizing h with
  | nil => exact hs
  | cons x xs ih =>
    obtain ⟨h', h1, h2⟩ := sep_drop hs
    exact sep_mono (ih h1) h2
theorem sep_left {xs ys : List HP} : ∀ {h : PH}, Sep (xs ++ ys) h → Sep xs h := by
  induction xs with
  | nil => intro h _; trivial
  | cons x xs ih => intro h hs; exact sep_tail (fun _ => ih) hs

/-! ### single blocks -/
theorem Cl_get {b : Nat} {T : TypeId} {cs : List Value} {l : List HP} {h : PH} (hs : Sep (Cl b T cs :: l) h) : h b = some (.cells cs.toArray T (0, 0)) := by
  obtain ⟨h1, h2, d, u, hp, _⟩ := hs
  rw [u b, show h1 b = _ from hp]; rfl
theorem Cl_set {b : Nat} {T : TypeId} {cs cs' : List Value} {l : List HP} {h h' : PH} (hs : Sep (Cl b T cs :: l) h) (hb : h' b = some (.cells cs'.toArray T (0, 0))) (ho : ∀ k, k ≠ b → h' k = h k) :
    Sep (Cl b T cs' :: l) h' := by
  obtain ⟨h1, h2, d, u, hp, hr⟩ := hs
  have hp' : h1 b = some (.cells cs.toArray T (0, 0)) := hp
  have h2b : h2 b = none := by rcases d b with h | h; rw [hp'] at h; cases h; exact h
  refine ⟨fun k => if k = b then some (.cells cs'.toArray T (0, 0)) else h1 k, h2, fun k => ?_, fun k => ?_, by simp [Cl], hr⟩
  · by_cases hk : k = b
    · subst hk; exact .inr h2b
    · simp only [if_neg hk]; exact d k
  · by_cases hk : k = b
    · subst hk; simp [hb]
    · simp only [if_neg hk]; rw [ho k hk]; exact u k
theorem sep_new {b : Nat} {x : HP} {o : Obj} {l : List HP} {h h' : PH} (hs : Sep l h) (hn : h b = none) (hb : h' b = some o) (ho : ∀ k, k ≠ b → h' k = h k) (hx : x (fun k => if k = b then some o else none)) : Sep (x :: l) h' := by
  refine ⟨_, h, fun k => ?_, fun k => ?_, hx, hs⟩
  · by_cases hk : k = b
    · subst hk; exact .inr hn
    · left; simp [hk]
  · by_cases hk : k = b
    · subst hk; simp [hb]
    · simp [hk, ho k hk]
theorem Cl_ne {b b' : Nat} {T T' : TypeId} {cs cs' : List Value} {l : List HP} {h : PH} (hs : Sep (Cl b T cs :: Cl b' T' cs' :: l) h) : b ≠ b' := by
  rintro rfl
  obtain ⟨h1, h2, d, u, hp, hr⟩ := hs
  have e1 : h1 b = some (.cells cs.toArray T (0, 0)) := hp
  have e2 := Cl_get hr
  rcases d b with h | h
  · rw [e1] at h; cases h
  · rw [e2] at h; cases h

/-- a part that is several parts -/
theorem sep_flat {x : HP} {ys r : List HP} {h : PH} (o : ∀ h, x h → Sep ys h) (hs : Sep (x :: r) h) : Sep (ys ++ r) h := by
  have h1 : Sep (Sep ys :: r) h := by
    obtain ⟨h1, h2, d, u, hx, hr⟩ := hs
    exact ⟨h1, h2, d, u, o h1 hx, hr⟩
  have key : ∀ (ys : List HP) (h1 h2 : PH), Sep ys h1 → (∀ b, h1 b = none ∨ h2 b = none) → Sep r h2 → Sep (ys ++ r) (fun b => (h1 b).or (h2 b)) := by
    intro ys
    induction ys with
    | nil =>
      intro h1 h2 _ d hr
      refine sep_mono hr fun b o hb => ?_
      rcases d b with hd | hd
      · simp [hd, hb]
      · rw [hd] at hb; cases hb
    | cons y ys ih =>
      intro h1 h2 ⟨g1, g2, d', u', hy, hys⟩ d hr
      have d2 : ∀ b, g2 b = none ∨ h2 b = none := fun b => by
        rcases d b with hd | hd
        · rw [u' b] at hd
          cases e1 : g1 b <;> rw [e1] at hd <;> simp at hd
          exact .inl hd
        · exact .inr hd
      refine ⟨g1, fun b => (g2 b).or (h2 b), fun b => ?_, fun b => ?_, hy, ih g2 h2 hys d2 hr⟩
      · cases e1 : g1 b with
        | none => exact .inl rfl
        | some o =>
          have a1 := d' b; rw [e1] at a1
          have a2 := d b; rw [u' b, e1] at a2
          simp at a1 a2
          simp [a1, a2]
      · show (h1 b).or (h2 b) = (g1 b).or ((g2 b).or (h2 b))
        rw [u' b]
        cases g1 b <;> simp
  obtain ⟨h1', h2', d, u, hy, hr⟩ := h1
  have := key ys h1' h2' hy d hr
  have e : (fun b => (h1' b).or (h2' b)) = h := by funext b; exact (u b).symm
  rwa [e] at this
/-- several parts that are one -/
theorem sep_fold {x : HP} {ys r : List HP} {h : PH} (o : ∀ h, Sep ys h → x h) (hs : Sep (ys ++ r) h) : Sep (x :: r) h := by
  have key : ∀ (ys : List HP) (h : PH), Sep (ys ++ r) h → Sep (Sep ys :: r) h := by
    intro ys
    induction ys with
    | nil => intro h hs; exact ⟨fun _ => none, h, fun b => .inl rfl, fun b => by simp, trivial, hs⟩
    | cons y ys ih =>
      intro h hs
      have h1 : Sep (y :: Sep ys :: r) h := sep_tail (fun _ => ih _) hs
      obtain ⟨g1, g2, d, u, hy, k1, k2, d', u', hys, hr⟩ := h1
      refine ⟨fun b => (g1 b).or (k1 b), k2, fun b => ?_, fun b => ?_, ⟨g1, k1, fun b => ?_, fun b => rfl, hy, hys⟩, hr⟩
      · have a1 := d b; have a2 := d' b; rw [u' b] at a1
        cases e1 : g1 b <;> cases e2 : k1 b <;> cases e3 : k2 b <;> simp_all
      · rw [u b, u' b]
        show (g1 b).or ((k1 b).or (k2 b)) = ((g1 b).or (k1 b)).or (k2 b)
        cases e1 : g1 b <;> simp
      · have a1 := d b; rw [u' b] at a1
        cases e1 : g1 b <;> cases e2 : k1 b <;> simp_all
  obtain ⟨h1, h2, d, u, hy, hr⟩ := key ys h hs
  exact ⟨h1, h2, d, u, o h1 hy, hr⟩
end Go.Dv

/- The rules of a walk. -/
namespace Go.Dv
open Go

def En (aa : List HP) (J : PH → Prop) : Prop := ∀ h, Sep aa h → J h
def Rk (pend : Pn) (D : Nat) (aa : List HP) : Prop := En aa (Pnd pend D)

section
variable {P : Program} {gl : Gl} {n : Nat} {aa r : List HP} {J : PH → Prop} {e : Env} {K : Kx} {k : Env → PH → Prop}

/-! ### on any goal -/
theorem en_open {α : Type} {x : HP} {φ : α → Prop} {ys : α → List HP} (o : ∀ h, x h → ∃ y, φ y ∧ Sep (ys y) h) (pk : Pk aa x r)
    (k : ∀ y, φ y → En (ys y ++ r) J) : En aa J := by
  intro h hs
  obtain ⟨h1, h2, d, u, hx, hr⟩ := pk.out hs
  obtain ⟨y, hφ, hy⟩ := o h1 hx
  refine k y hφ h (sep_flat (x := Sep (ys y)) (fun _ h => h) ⟨h1, h2, d, u, hy, hr⟩)
theorem en_fold {x : HP} {ys : List HP} (o : ∀ h, Sep ys h → x h) (sx : Sx aa ys r) (k : En (x :: r) J) : En aa J :=
  fun h hs => k h (sep_fold o (sx.out hs))
theorem en_sx {ys : List HP} (sx : Sx aa ys r) (k : En (ys ++ r) J) : En aa J := fun h hs => k h (sx.out hs)
theorem en_drop {x : HP} (pk : Pk aa x r) (k : En r J) : En aa J := fun h hs => by
  obtain ⟨h', h1, h2⟩ := sep_drop (pk.out hs)
  exact k h (sep_mono h1 h2)
theorem en_fact {x : HP} {φ : Prop} (f : ∀ h, x h → φ) (pk : Pk aa x r) (k : φ → En aa J) : En aa J := by
  intro h hs
  obtain ⟨h1, h2, d, u, hx, hr⟩ := pk.out hs
  exact k (f h1 hx) h hs
theorem en_ne {b b' : Nat} {T T' : TypeId} {cs cs' : List Value} (sx : Sx aa [Cl b T cs, Cl b' T' cs'] r) (k : b ≠ b' → En aa J) : En aa J :=
  fun h hs => k (Cl_ne (sx.out hs)) h hs

theorem en_i (k : ∀ h, Sep aa h → J h) : En aa J := k
theorem en_all (h : ∀ g, J g) : En aa J := fun g _ => h g

theorem en_emp {x : HP} (hx : x fun _ => none) (k : En (x :: aa) J) : En aa J := fun h hs => k h ⟨fun _ => none, h, fun _ => .inl rfl, fun b => by simp, hx, hs⟩

/-! ### code -/
theorem m_seq {x y : MC} (m : En aa (HM P n gl x (seqK (HM P n gl y K) K) e)) : En aa (HM P n gl (.seq x y) K e) := fun h hs => hm_seq (m h hs)
theorem m_reg {t : MT} (hm : P.follows .mixedOrders = true) (m : En aa (HTh P gl (K .normal) t [] 0 e)) : En aa (HM P n gl (.reg t) K e) := fun h hs => hm_reg hm (m h hs)
theorem m_block {i : Nat} {b : MC} (m : En aa (HM P n gl b (blockK i K) e)) : En aa (HM P n gl (.block i b) K e) := fun h hs => hm_block (m h hs)
theorem m_cond {o : Operand} {x y : MC} {b : Bool} (ho : ev e o = some (.bool b)) (h1 : b = true → En aa (HM P n gl x K e)) (h2 : b = false → En aa (HM P n gl y K e)) : En aa (HM P n gl (.cond o x y) K e) :=
  fun h hs => hm_cond ho (fun hb => h1 hb h hs) (fun hb => h2 hb h hs)
theorem m_ct {o : Operand} {x y : MC} (ho : ev e o = some (.bool true)) (h1 : En aa (HM P n gl x K e)) : En aa (HM P n gl (.cond o x y) K e) := m_cond ho (fun _ => h1) (fun h => by cases h)
theorem m_cf {o : Operand} {x y : MC} (ho : ev e o = some (.bool false)) (h1 : En aa (HM P n gl y K e)) : En aa (HM P n gl (.cond o x y) K e) := m_cond ho (fun h => by cases h) (fun _ => h1)
theorem m_skip (k : En aa (K .normal e)) : En aa (HM P n gl .skip K e) := fun h hs => hm_skip (k h hs)
theorem m_label {i : Nat} (k : En aa (K .normal e)) : En aa (HM P n gl (.label i) K e) := fun h hs => hm_label (k h hs)
theorem m_exit {i : Nat} (k : En aa (K (.exit i) e)) : En aa (HM P n gl (.exit i) K e) := fun h hs => hm_exit (k h hs)
theorem m_goto {i : Nat} (k : En aa (K (.goto i) e)) : En aa (HM P n gl (.goto i) K e) := fun h hs => hm_goto (k h hs)
theorem m_ret0 (k : En aa (K .ret e)) : En aa (HM P n gl .ret K e) := fun h hs => hm_ret (k h hs)
theorem m_loop {α : Type} {b : MC} (I : α → Env → List HP → Prop) (μ : α → Nat) (x0 : α) (h0 : I x0 e aa)
    (round : ∀ x e aa, I x e aa → En aa (HM P n gl b (seqK (fun e' h' => ∃ y aa', μ y < μ x ∧ I y e' aa' ∧ Sep aa' h') K) e)) : En aa (HM P n gl (.loop b) K e) := by
  intro h hs
  refine hm_loop (fun x e h => ∃ aa, I x e aa ∧ Sep aa h) μ x0 ⟨aa, h0, hs⟩ ?_
  rintro x e h ⟨aa, hI, hs⟩
  refine hm_mono ?_ (round x e aa hI h hs)
  intro ex e' h' hk
  cases ex with
  | normal => obtain ⟨y, aa', h1, h2, h3⟩ := hk; exact ⟨y, h1, aa', h2, h3⟩
  | _ => exact hk
theorem m_scope {α : Type} {b : MC} (I : α → Nat → Env → List HP → Prop) (μ : α → Nat)
    (first : En aa (HM P n gl b (scopeK b (fun l e h => ∃ y aa', I y l e aa' ∧ Sep aa' h) K) e))
    (pass : ∀ x l mr e aa, findM b l = some mr → I x l e aa → En aa (HM P n gl mr (scopeK b (fun l e h => ∃ y aa', μ y < μ x ∧ I y l e aa' ∧ Sep aa' h) K) e)) : En aa (HM P n gl (.scope b) K e) := by
  intro h hs
  have mono : ∀ (J J' : Nat → Env → PH → Prop), (∀ l e h, J l e h → J' l e h) → ∀ x e h, scopeK b J K x e h → scopeK b J' K x e h := by
    intro J J' hJ x e h hx
    cases x with
    | goto l => exact hx.imp (fun ⟨a, b⟩ => ⟨a, hJ _ _ _ b⟩) id
    | _ => exact hx
  refine hm_scope (fun x l e h => ∃ aa, I x l e aa ∧ Sep aa h) μ ?_ ?_
  · exact hm_mono (mono _ _ fun l e h ⟨y, aa', h1, h2⟩ => ⟨y, aa', h1, h2⟩) (first h hs)
  · rintro x l mr e h hf ⟨aa, hI, hs⟩
    exact hm_mono (mono _ _ fun l e h ⟨y, aa', h1, h2, h3⟩ => ⟨y, h1, aa', h2, h3⟩) (pass x l mr e aa hf hI h hs)

/-- what a region leaves that is read elsewhere -/
def selO (e : Env) : List Nat → Option Env
  | [] => some []
  | l :: ls => match e.get l, selO e ls with
    | some v, some r => some ((l, v) :: r)
    | none, some r => some r
    | _, none => none
theorem selO_get : ∀ {L : List Nat} {e e' : Env}, selO e L = some e' → ∀ t v, e'.get t = some v → e.get t = some v
  | [], e, e', h, t, v, hv => by simp only [selO, Option.some.injEq] at h; subst h; simp [Env.get] at hv
  | l :: L, e, e', h, t, v, hv => by
    simp only [selO] at h
    split at h
    · rename_i u r h1 h2
      simp only [Option.some.injEq] at h; subst h
      simp only [Env.get] at hv
      cases hb : Nat.beq l t with
      | true =>
        rw [hb] at hv
        simp only [cond_true, Option.some.injEq] at hv
        rw [← Nat.eq_of_beq_eq_true hb, h1, hv]
      | false => rw [hb] at hv; exact selO_get h2 t v hv
    · rename_i r h1 h2
      simp only [Option.some.injEq] at h; subst h
      exact selO_get h2 t v hv
    · cases h
theorem hm_less {m : MC} {e' : Env} {h : PH} (he : ∀ t v, e'.get t = some v → e.get t = some v) (hm : HM P n gl m K e' h) : HM P n gl m K e h :=
  fun c hc a w ha hh hg => hm c hc a w ⟨ha.1, ha.2.1, fun t v ht => ha.2.2 t v (he t v ht)⟩ hh hg
/-! ### where ways meet again -/
def Meet {α : Type} (E : α → Env) (A : α → List HP) (φ : α → Prop) : Env → PH → Prop := fun e h => ∃ z, φ z ∧ Env.le (E z) e ∧ Sep (A z) h
theorem m_cut {x y : MC} {α : Type} (E : α → Env) (A : α → List HP) (φ : α → Prop) (m1 : En aa (HM P n gl x (seqK (Meet E A φ) K) e)) (m2 : ∀ z, φ z → En (A z) (HM P n gl y K (E z))) : En aa (HM P n gl (.seq x y) K e) := by
  intro h hs
  refine hm_seq (hm_mono ?_ (m1 h hs))
  intro ex e' h' hk
  cases ex with
  | normal => obtain ⟨z, h1, h2, h3⟩ := hk; exact hm_less h2 (m2 z h1 h' h3)
  | _ => exact hk
theorem t_meet {α : Type} {E : α → Env} {A : α → List HP} {φ : α → Prop} {pend : Pn} {D : Nat} (hk : k = Meet E A φ) (z : α) (h1 : φ z) (L : List Nat) (h2 : selO e L = some (E z)) (sx : Sx aa (A z) r) : En aa (HTh P gl k .done pend D e) :=
  fun h hs => ⟨e, Env.le_refl e, by rw [hk]; exact ⟨z, h1, selO_get h2, sep_left (sx.out hs)⟩⟩
theorem m_meet {α : Type} {E : α → Env} {A : α → List HP} {φ : α → Prop} (hk : K .normal = Meet E A φ) (z : α) (h1 : φ z) (L : List Nat) (h2 : selO e L = some (E z)) (sx : Sx aa (A z) r) : En aa (HM P n gl .skip K e) :=
  m_skip fun h hs => by rw [hk]; exact ⟨z, h1, selO_get h2, sep_left (sx.out hs)⟩

/-! ### regions -/
theorem t_end {pend : Pn} {D : Nat} (m : En aa (k e)) : En aa (HTh P gl k .done pend D e) := fun h hs => ⟨e, Env.le_refl e, m h hs⟩
theorem t_next {pend : Pn} {D : Nat} {y : MC} (hk : k = HM P n gl y K) (m : En aa (HM P n gl y K e)) : En aa (HTh P gl k .done pend D e) := by subst hk; exact fun h hs => ⟨e, Env.le_refl e, m h hs⟩
theorem t_nx {pend : Pn} {D : Nat} {y : MC} {e' : Env} (L : List Nat) (hk : k = HM P n gl y K) (he : selO e L = some e') (m : En aa (HM P n gl y K e')) : En aa (HTh P gl k .done pend D e) := by
  subst hk
  exact fun h hs => ⟨e', selO_get he, m h hs⟩
theorem rv_of_pv {x : MX} {v : Value} {h : PH} (hv : pv e x = some v) : RV P h e x v := by
  cases x <;> first
    | exact hv
    | (simp [pv] at hv)
theorem t_p {d : Nat} {g : Option (Nat × Bool)} {x : MX} {t : MT} {pend : Pn} {D : Nat} {v : Value} (hg : gdv e g = some true) (hv : pv e x = some v) (m : En aa (HTh P gl k t pend D ((d, v) :: e))) :
    En aa (HTh P gl k (.rd (some d) g none x t) pend D e) := fun h hs => ⟨e, Env.le_refl e, .inl ⟨hg, v, rv_of_pv hv, m h hs⟩⟩
/-- all that hangs on the operands alone, at one blow -/
inductive RR where
  | mk (t : MT) (e : Env)
  | bad
def runP : MT → Env → RR
  | .rd (some d) none none x t, e => match pv e x with
    | some v => runP t ((d, v) :: e)
    | none => .mk (.rd (some d) none none x t) e
  | t, e => .mk t e
def runQ : MT → Env → RR
  | .rd (some d) none none x t, e => match pv e x with
    | some v => runP t ((d, v) :: e)
    | none => .bad
  | _, _ => .bad
theorem runP_sound {pend : Pn} {D : Nat} : ∀ (t : MT) (e : Env) (t' : MT) (e' : Env) (h : PH), runP t e = .mk t' e' → HTh P gl k t' pend D e' h → HTh P gl k t pend D e h := by
  intro t
  induction t with
  | rd d g m x t ih =>
    intro e t' e' h hr hh
    cases d with
    | none => simp only [runP, RR.mk.injEq] at hr; obtain ⟨rfl, rfl⟩ := hr; exact hh
    | some d =>
      cases g with
      | some g => simp only [runP, RR.mk.injEq] at hr; obtain ⟨rfl, rfl⟩ := hr; exact hh
      | none =>
        cases m with
        | some m => simp only [runP, RR.mk.injEq] at hr; obtain ⟨rfl, rfl⟩ := hr; exact hh
        | none =>
          simp only [runP] at hr
          split at hr
          · rename_i v hv
            exact ⟨e, Env.le_refl e, .inl ⟨rfl, v, rv_of_pv hv, ih _ _ _ _ hr hh⟩⟩
          · simp only [RR.mk.injEq] at hr; obtain ⟨rfl, rfl⟩ := hr; exact hh
  | _ => intro e t' e' h hr hh; simp only [runP, RR.mk.injEq] at hr; obtain ⟨rfl, rfl⟩ := hr; exact hh
theorem t_run {t t' : MT} {pend : Pn} {D : Nat} {d : Nat} {x : MX} {e' : Env} (hr : runQ (.rd (some d) none none x t) e = .mk t' e') (m : En aa (HTh P gl k t' pend D e')) : En aa (HTh P gl k (.rd (some d) none none x t) pend D e) := by
  intro h hs
  simp only [runQ] at hr
  split at hr
  · rename_i v hv
    exact ⟨e, Env.le_refl e, .inl ⟨rfl, v, rv_of_pv hv, runP_sound _ _ _ _ _ hr (m h hs)⟩⟩
  · cases hr
/-- by what a place holds, true or false -/
theorem t_spl {t : MT} {pend : Pn} {D : Nat} {b : Bool} (s : Nat) (hs : e.get s = some (.bool b)) (h1 : b = true → En aa (HTh P gl k t pend D ((s, .bool true) :: e))) (h2 : b = false → En aa (HTh P gl k t pend D ((s, .bool false) :: e))) :
    En aa (HTh P gl k t pend D e) := by
  have key : Env.le ((s, .bool b) :: e) e := by
    intro t v h
    simp only [Env.get] at h
    cases hq : Nat.beq s t with
    | true => rw [hq] at h; simp only [cond_true, Option.some.injEq] at h; rw [← Nat.eq_of_beq_eq_true hq, hs, h]
    | false => rw [hq] at h; exact h
  intro h hh
  cases b with
  | true => exact HTh_mono key (h1 rfl h hh)
  | false => exact HTh_mono key (h2 rfl h hh)
theorem t_c {d : Nat} {g : Option (Nat × Bool)} {x : MX} {t : MT} {pend : Pn} {D : Nat} {v : Value} (hg : gdv e g = some true) (hv : ∀ h, RV P h e x v) (m : En aa (HTh P gl k t pend D ((d, v) :: e))) :
    En aa (HTh P gl k (.rd (some d) g none x t) pend D e) := fun h hs => ⟨e, Env.le_refl e, .inl ⟨hg, v, hv h, m h hs⟩⟩
theorem t_r {d : Nat} {g : Option (Nat × Bool)} {x : MX} {t : MT} {pend : Pn} {D : Nat} {v : Value} {o : Option Nat} (hg : gdv e g = some true) (hv : En aa (fun h => RV P h e x v)) (m : En aa (HTh P gl k t (remember P o e x v pend) D ((d, v) :: e))) :
    En aa (HTh P gl k (.rd (some d) g o x t) pend D e) := fun h hs => ⟨e, Env.le_refl e, .inl ⟨hg, v, hv h hs, m h hs⟩⟩
theorem ld_rv {x : Operand} {c : Option Nat} {b o : Nat} {T : TypeId} {cs : List Value} {v : Value} (hx : ev e x = some (.pointer (some ⟨b, o, none⟩))) (pk : Pk aa (Cl b T cs) r) (hv : atCells c cs o = some v) :
    En aa (fun h => RV P h e (.ld c x) v) := by
  intro h hs
  have := Cl_get (pk.out hs)
  simp [RV, rv, hx, this, hv]
theorem t_ld {d : Nat} {g : Option (Nat × Bool)} {x : Operand} {c : Option Nat} {t : MT} {pend : Pn} {D : Nat} {v : Value} {o : Option Nat} {b f : Nat} {T : TypeId} {cs : List Value} (hg : gdv e g = some true)
    (hx : ev e x = some (.pointer (some ⟨b, f, none⟩))) (pk : Pk aa (Cl b T cs) r) (hv : atCells c cs f = some v) (m : En aa (HTh P gl k t (remember P o e (.ld c x) v pend) D ((d, v) :: e))) :
    En aa (HTh P gl k (.rd (some d) g o (.ld c x) t) pend D e) := t_r hg (ld_rv hx pk hv) m
theorem t_gr {d : Nat} {g : Option (Nat × Bool)} {x : MX} {t : MT} {pend : Pn} {D : Nat} {o : Option Nat} (hg : gdv e g = some false) (m : En aa (HTh P gl k t pend D ((d, undef) :: e))) :
    En aa (HTh P gl k (.rd (some d) g o x t) pend D e) := fun h hs => ⟨e, Env.le_refl e, .inr ⟨hg, m h hs⟩⟩
theorem t_ge {d : Option Nat} {g : Option (Nat × Bool)} {x : MX} {t : MT} {pend : Pn} {D i : Nat} (hg : gdv e g = some false) (m : En aa (HTh P gl k t pend (D ||| 2 ^ i) (put e d undef))) :
    En aa (HTh P gl k (.ef d g i x t) pend D e) := fun h hs => ⟨e, Env.le_refl e, .inr ⟨hg, m h hs⟩⟩
theorem t_alt {a b : MT} {pend : Pn} {D : Nat} (m1 : En aa (HTh P gl k a pend D e)) (m2 : En aa (HTh P gl k b pend D e)) : En aa (HTh P gl k (.alt a b) pend D e) := fun h hs => ⟨m1 h hs, m2 h hs⟩

theorem rk_nil {D : Nat} : Rk [] D aa := fun _ _ => trivial
theorem rk_skip {D m : Nat} {T : PH → Prop} {pend : Pn} (hm : (m &&& D == 0) = false) (h : Rk pend D aa) : Rk ((m, T) :: pend) D aa :=
  fun g hs => ⟨fun hz => by simp [hz] at hm, h g hs⟩
theorem rk_r {D m : Nat} {T : PH → Prop} {pend : Pn} (hT : En aa T) (h : Rk pend D aa) : Rk ((m, T) :: pend) D aa := fun g hs => ⟨fun _ => hT g hs, h g hs⟩
theorem rk_ld {D m : Nat} {x : Operand} {c : Option Nat} {v : Value} {pend : Pn} {b f : Nat} {T : TypeId} {cs : List Value}
    (hx : ev e x = some (.pointer (some ⟨b, f, none⟩))) (pk : Pk aa (Cl b T cs) r) (hv : atCells c cs f = some v) (h : Rk pend D aa) : Rk ((m, fun h => RV P h e (.ld c x) v) :: pend) D aa :=
  rk_r (ld_rv hx pk hv) h

/-- what turns the world, by what it does -/
theorem t_ef {d : Option Nat} {g : Option (Nat × Bool)} {x : MX} {t : MT} {pend : Pn} {D i : Nat} {R : Value → List HP → Prop} (hg : gdv e g = some true)
    (hx : ∀ w, Sep aa (hw w) → okG gl w → ∀ R' : Value → World → Prop, (∀ v w' aa', R v aa' → okG gl w' → Sep aa' (hw w') → R' v w') → efX P e x w R')
    (m : ∀ v aa', R v aa' → Rk pend (D ||| 2 ^ i) aa' ∧ En aa' (HTh P gl k t pend (D ||| 2 ^ i) (put e d v))) :
    En aa (HTh P gl k (.ef d g i x t) pend D e) := by
  intro h hs
  refine ⟨e, Env.le_refl e, .inl ⟨hg, fun w hh hG => ?_⟩⟩
  subst hh
  refine hx w hs hG _ fun v w' aa' hR hG' hs' => ?_
  obtain ⟨m1, m2⟩ := m v aa' hR
  exact ⟨hG', m1 _ hs', m2 _ hs'⟩

theorem hw_setRow {w : World} {b : Nat} {c cs : Array Value} {T : TypeId} {fz : Nat × Nat} (hb : hw w b = some (.cells c T fz)) : hw (w.setRow b cs) b = some (.cells cs T fz) := setRow_heap w b c cs T fz hb
theorem hw_setRow_ne {w : World} {b k : Nat} {cs : Array Value} (h : k ≠ b) : hw (w.setRow b cs) k = hw w k := by
  unfold hw World.setRow
  simp only
  rw [Array.getElem?_modify]
  simp [Ne.symm h]
theorem hw_alloc {w : World} {o : Obj} : hw (w.alloc o) w.heap.size = some o := by unfold hw World.alloc; simp
theorem hw_alloc_ne {w : World} {o : Obj} {k : Nat} (h : k ≠ w.heap.size) : hw (w.alloc o) k = hw w k := by
  unfold hw World.alloc
  simp only [Array.getElem?_push]
  split
  · rename_i hk; exact absurd hk h
  · rfl
theorem hw_top {w : World} : hw w w.heap.size = none := by simp [hw]

theorem t_st {d : Option Nat} {g : Option (Nat × Bool)} {x y : Operand} {z : Nat} {t : MT} {pend : Pn} {D i : Nat} {b f : Nat} {T : TypeId} {cs us : List Value} {u : Value} (hg : gdv e g = some true)
    (hx : ev e x = some (.pointer (some ⟨b, f, none⟩))) (hy : ev e y = some u) (pk : Pk aa (Cl b T cs) r) (hu : u.cells.toList = us) (hl : us.length = z) (hb : f + z ≤ cs.length) (h1 : us.all Value.oneCell' = true)
    (hr : Rk pend (D ||| 2 ^ i) (Cl b T (splice cs f us) :: r)) (m : En (Cl b T (splice cs f us) :: r) (HTh P gl k t pend (D ||| 2 ^ i) (put e d undef))) :
    En aa (HTh P gl k (.ef d g i (.st z x y) t) pend D e) := by
  refine t_ef (R := fun v aa' => v = undef ∧ aa' = Cl b T (splice cs f us) :: r) hg ?_ (by rintro v aa' ⟨rfl, rfl⟩; exact ⟨hr, m⟩)
  intro w hs hG R' hR'
  have hs' := pk.out hs
  have hc := Cl_get hs'
  simp only [efX, hx, hy]
  refine ⟨cs.toArray, T, hc, by rw [hu]; exact hl, by simpa using hb, by rw [hu]; exact h1, ?_⟩
  refine hR' _ _ _ ⟨rfl, rfl⟩ ⟨hG.1, hG.2⟩ ?_
  rw [hu]
  exact Cl_set hs' (hw_setRow hc) fun k hk => hw_setRow_ne hk

theorem t_al {d : Option Nat} {g : Option (Nat × Bool)} {t : MT} {pend : Pn} {D i : Nat} {T : TypeId} {cs : List Value} (hg : gdv e g = some true)
    (m : ∀ b, Rk pend (D ||| 2 ^ i) (Cl b T cs :: aa) ∧ En (Cl b T cs :: aa) (HTh P gl k t pend (D ||| 2 ^ i) (put e d (.pointer (some ⟨b, 0, none⟩))))) :
    En aa (HTh P gl k (.ef d g i (.al T cs) t) pend D e) := by
  refine t_ef (R := fun v aa' => ∃ b, v = .pointer (some ⟨b, 0, none⟩) ∧ aa' = Cl b T cs :: aa) hg ?_ (by rintro v aa' ⟨b, rfl, rfl⟩; exact m b)
  intro w hs hG R' hR'
  simp only [efX]
  refine hR' _ _ _ ⟨_, rfl, rfl⟩ ⟨hG.1, hG.2⟩ ?_
  exact sep_new hs hw_top hw_alloc (fun k hk => hw_alloc_ne hk) (by simp [Cl])
theorem t_bx {d : Option Nat} {g : Option (Nat × Bool)} {t : MT} {pend : Pn} {D i z : Nat} {T : TypeId} {y : Operand} {u : Value} {cs : List Value} (hg : gdv e g = some true) (hy : ev e y = some u) (hu : u.cells.toList = cs)
    (m : ∀ b, Rk pend (D ||| 2 ^ i) (Cl b T cs :: aa) ∧ En (Cl b T cs :: aa) (HTh P gl k t pend (D ||| 2 ^ i) (put e d (.pointer (some ⟨b, 0, none⟩))))) :
    En aa (HTh P gl k (.ef d g i (.bx T z y) t) pend D e) := by
  refine t_ef (R := fun v aa' => ∃ b, v = .pointer (some ⟨b, 0, none⟩) ∧ aa' = Cl b T cs :: aa) hg ?_ (by rintro v aa' ⟨b, rfl, rfl⟩; exact m b)
  intro w hs hG R' hR'
  simp only [efX, hy]
  refine ⟨trivial, hR' _ _ _ ⟨_, rfl, rfl⟩ ⟨hG.1, hG.2⟩ ?_⟩
  exact sep_new hs hw_top hw_alloc (fun k hk => hw_alloc_ne hk) (by simp [Cl, ← hu])

/-! ### functions -/
def Fsp (P : Program) (f : FuncId) (args : List Value) (pre : List HP) (post : Value → List HP → Prop) : Prop :=
  ∀ (gl : Gl) (F : HP) (w : World), okG gl w → Sep (pre ++ [F]) (hw w) → callsR P f args.toArray w fun v w' => okG gl w' ∧ ∃ aa', post v aa' ∧ Sep (aa' ++ [F]) (hw w')

def PostJ (post : Value → List HP → Prop) (X : HP) (v : Value) (h : PH) : Prop := ∃ aa', post v aa' ∧ Sep (aa' ++ [X]) h

theorem spec_of {f : FuncId} {n : Nat} {res : List MRes} {m : MC} {args : List Value} {pre : List HP} {post : Value → List HP → Prop} (hF : trF P f = some ⟨n, res, m⟩) (hn : Nat.ble args.length n = true)
    (m : ∀ gl X, En (pre ++ [X]) (HM P n gl m (retK res (PostJ post X)) (argEnv 0 args))) : Fsp P f args pre post :=
  fun gl X _ hg hs => calls_of_HM hF (Nat.le_of_ble_eq_true hn) hg (m gl X _ hs)

theorem m_ret {res : List MRes} {X : HP} {post : Value → List HP → Prop} {vs : List Value} {aa' : List HP} (hk : K .ret = retK res (PostJ post X) .ret)
    (hr : En aa (fun h => resV h e res = some vs)) (hp : post (mkRes vs) aa') (sx : Sx aa (aa' ++ [X]) r) : En aa (HM P n gl .ret K e) :=
  m_ret0 fun h hs => by rw [hk, retK_ret]; exact ⟨vs, hr h hs, aa', hp, sep_left (sx.out hs)⟩
theorem t_ret {res : List MRes} {X : HP} {post : Value → List HP → Prop} {vs : List Value} {aa' : List HP} {pend : Pn} {D : Nat} (hk : k = retK res (PostJ post X) .normal)
    (hr : En aa (fun h => resV h e res = some vs)) (hp : post (mkRes vs) aa') (sx : Sx aa (aa' ++ [X]) r) : En aa (HTh P gl k .done pend D e) :=
  fun h hs => by rw [hk, retK_normal]; exact ⟨e, Env.le_refl e, vs, hr h hs, aa', hp, sep_left (sx.out hs)⟩

theorem rs_nil : En aa (fun h => resV h e [] = some []) := fun _ _ => rfl
theorem rs_tmp {t : Nat} {v : Value} {rs : List MRes} {vs : List Value} (h1 : e.get t = some v) (h2 : En aa (fun h => resV h e rs = some vs)) : En aa (fun h => resV h e ((t, none) :: rs) = some (v :: vs)) :=
  fun h hs => by simp [resV, res1, h1, h2 h hs]
theorem rs_cell {t b o : Nat} {c : Option Nat} {T : TypeId} {cs : List Value} {v : Value} {rs : List MRes} {vs : List Value} (h1 : e.get t = some (.pointer (some ⟨b, o, none⟩))) (pk : Pk aa (Cl b T cs) r) (hv : atCells c cs o = some v)
    (h2 : En aa (fun h => resV h e rs = some vs)) : En aa (fun h => resV h e ((t, some c) :: rs) = some (v :: vs)) :=
  fun h hs => by simp [resV, res1, h1, Cl_get (pk.out hs), hv, h2 h hs]

/-! ### a part of a whole -/
def Wand (x y : HP) : HP := fun h => ∀ h1 h2 : PH, (∀ b, h1 b = none ∨ h b = none) → (∀ b, h2 b = (h1 b).or (h b)) → x h1 → y h2
theorem wand_mk {x y : HP} {ys : List HP} (o : ∀ h, Sep (x :: ys) h → y h) : ∀ h, Sep ys h → Wand x y h :=
  fun h hs h1 h2 d u hx => o h2 ⟨h1, h, d, u, hx, hs⟩
theorem wand_use {x y : HP} {l : List HP} {h : PH} (hs : Sep (Wand x y :: x :: l) h) : Sep (y :: l) h := by
  obtain ⟨h1, h2, d, u, hw, h3, h4, d', u', hx, hl⟩ := hs
  refine ⟨fun b => (h3 b).or (h1 b), h4, fun b => ?_, fun b => ?_, hw h3 _ (fun b => ?_) (fun _ => rfl) hx, hl⟩
  · have a1 := d b; have a2 := d' b; rw [u' b] at a1
    cases e1 : h1 b <;> cases e3 : h3 b <;> cases e4 : h4 b <;> simp_all
  · have a1 := d b; have a2 := d' b; rw [u' b] at a1; rw [u b, u' b]
    show (h1 b).or ((h3 b).or (h4 b)) = ((h3 b).or (h1 b)).or (h4 b)
    cases e1 : h1 b <;> cases e3 : h3 b <;> cases e4 : h4 b <;> simp_all
  · have a1 := d b; rw [u' b] at a1
    cases e1 : h1 b <;> cases e3 : h3 b <;> simp_all
theorem en_wand {x y : HP} (sx : Sx aa [Wand x y, x] r) (m : En (y :: r) J) : En aa J := fun h hs => m h (wand_use (sx.out hs))
theorem m_less {m : MC} {e' : Env} (he : Env.le e' e) (hm : En aa (HM P n gl m K e')) : En aa (HM P n gl m K e) := fun h hs => hm_less he (hm h hs)
theorem m_gto {l : Nat} {b : MC} {J : Nat → Env → PH → Prop} {K0 : Kx} (hk : K (.goto l) = scopeK b J K0 (.goto l)) (hf : (findM b l).isSome = true) (hJ : En aa (J l e)) : En aa (HM P n gl (.goto l) K e) := by
  refine m_goto ?_
  rw [hk]
  exact fun h hs => .inl ⟨(by intro hn; rw [hn] at hf; cases hf), hJ h hs⟩

theorem calls_frame {f : FuncId} {vs : List Value} {pre : List HP} {post : Value → List HP → Prop} (S : Fsp P f vs pre post) (sx : Sx aa pre r) {w : World} (hs : Sep aa (hw w)) (hG : okG gl w) {R' : Value → World → Prop}
    (hR : ∀ v w' aa', post v aa' → okG gl w' → Sep (aa' ++ r) (hw w') → R' v w') : callsR P f vs.toArray w R' := by
  refine Calls.mono (S gl (Sep r) w hG (sep_app_one (sx.out hs))) ?_
  rintro x w' ⟨v, rfl, hG', aa', hp, hs'⟩
  exact ⟨v, rfl, hR v w' aa' hp hG' (sep_one_app hs')⟩

theorem t_cl {d : Option Nat} {g : Option (Nat × Bool)} {t : MT} {pend : Pn} {D i : Nat} {f : FuncId} {args : List Operand} {vs : List Value} {pre : List HP} {post : Value → List HP → Prop} (hg : gdv e g = some true)
    (hv : evs e args = some vs) (S : Fsp P f vs pre post) (sx : Sx aa pre r)
    (m : ∀ v aa', post v aa' → Rk pend (D ||| 2 ^ i) (aa' ++ r) ∧ En (aa' ++ r) (HTh P gl k t pend (D ||| 2 ^ i) (put e d v))) :
    En aa (HTh P gl k (.ef d g i (.cl f args) t) pend D e) := by
  refine t_ef (R := fun v aa'' => ∃ aa', post v aa' ∧ aa'' = aa' ++ r) hg ?_ (by rintro v _ ⟨aa', hp, rfl⟩; exact m v aa' hp)
  intro w hs hG R' hR'
  simp only [efX, hv]
  exact calls_frame S sx hs hG fun v w' aa' hp hG' hs' => hR' _ _ _ ⟨aa', hp, rfl⟩ hG' hs'
theorem t_cv {d : Option Nat} {g : Option (Nat × Bool)} {t : MT} {pend : Pn} {D i : Nat} {f : FuncId} {x : Operand} {args : List Operand} {first captured : Array Value} {us vs : List Value} {pre : List HP} {post : Value → List HP → Prop} (hg : gdv e g = some true)
    (hx : ev e x = some (.func (.func f) first captured)) (hv : evs e args = some us) (hvs : first.toList ++ us ++ captured.toList = vs) (hb : Bd P f) (S : Fsp P f vs pre post) (sx : Sx aa pre r)
    (m : ∀ v aa', post v aa' → Rk pend (D ||| 2 ^ i) (aa' ++ r) ∧ En (aa' ++ r) (HTh P gl k t pend (D ||| 2 ^ i) (put e d v))) :
    En aa (HTh P gl k (.ef d g i (.cv x args) t) pend D e) := by
  refine t_ef (R := fun v aa'' => ∃ aa', post v aa' ∧ aa'' = aa' ++ r) hg ?_ (by rintro v _ ⟨aa', hp, rfl⟩; exact m v aa' hp)
  intro w hs hG R' hR'
  simp only [efX, hx, hv]
  refine ⟨hb, ?_⟩
  have : first ++ us.toArray ++ captured = vs.toArray := by
    apply Array.ext'; simpa using hvs
  rw [this]
  exact calls_frame S sx hs hG fun v w' aa' hp hG' hs' => hR' _ _ _ ⟨aa', hp, rfl⟩ hG' hs'
theorem m_skn {y : MC} {K2 : Kx} (hk : K .normal = HM P n gl y K2) (m : En aa (HM P n gl y K2 e)) : En aa (HM P n gl .skip K e) := m_skip (by rw [hk]; exact m)
theorem m_exn {i : Nat} {y : MC} {K2 : Kx} (hk : K (.exit i) = HM P n gl y K2) (m : En aa (HM P n gl y K2 e)) : En aa (HM P n gl (.exit i) K e) := m_exit (by rw [hk]; exact m)
theorem m_lbn {i : Nat} {y : MC} {K2 : Kx} (hk : K .normal = HM P n gl y K2) (m : En aa (HM P n gl y K2 e)) : En aa (HM P n gl (.label i) K e) := m_label (by rw [hk]; exact m)
end
end Go.Dv

/- Slices of the call's own. -/
namespace Go.Dv
open Go

/-- of a slice's type: the elements' type, their cells, their bytes, the zero's cells -/
def slI (P : Program) (st : TypeId) : Option (TypeId × Nat × Nat × List Value) := match P.underlying st with
  | some (.slice E) => match P.info? E with
    | some i => match i.zero with
      | some z => some (E, i.size, i.bytes, z.cells.toList)
      | none => none
    | none => none
  | _ => none

def OwS (E k : Nat) (v : Value) (n : Nat) (cs : List Value) : HP := fun h => cs.length = n * k ∧
  ((v = .slice none 0 0 ∧ n = 0) ∨ ∃ (b cap : Nat) (sp : List Value), v = .slice (some ⟨b, 0, none⟩) n cap ∧ n ≤ cap ∧ (cs ++ sp).length = cap * k ∧ h b = some (.cells (cs ++ sp).toArray E (0, 0)))

section
variable {P : Program} {gl : Gl} {n : Nat} {aa r : List HP} {J : PH → Prop} {e : Env} {K : Kx} {k : Env → PH → Prop}

theorem slI_spec {st E kz by_ : Nat} {z : List Value} (h : slI P st = some (E, kz, by_, z)) : P.underlying st = some (.slice E) ∧ ∃ i zv, P.info? E = some i ∧ i.zero = some zv ∧ i.size = kz ∧ i.bytes = by_ ∧ zv.cells.toList = z := by
  unfold slI at h
  split at h
  · rename_i E' hu
    split at h
    · rename_i i hi
      split at h
      · rename_i zv hz
        simp only [Option.some.injEq, Prod.mk.injEq] at h
        obtain ⟨rfl, rfl, rfl, rfl⟩ := h
        exact ⟨hu, i, zv, hi, hz, rfl, rfl, rfl⟩
      · cases h
    · cases h
  · cases h

theorem t_raw {d : Option Nat} {g : Option (Nat × Bool)} {o : Oper} {t : MT} {pend : Pn} {D i : Nat} {R : Value → List HP → Prop} (hg : gdv e g = some true)
    (hk : known e o.op.operands.toList) (hs : ∀ cs b, o.op ≠ .select cs b)
    (hx : ∀ w, Sep aa (hw w) → okG gl w → ∃ v w' aa', ((execOp (evD e) o).run P w = .ok (.value v) w' ∨ ((execOp (evD e) o).run P w = .ok .skip w' ∧ v = undef)) ∧ okG gl w' ∧ Sep aa' (hw w') ∧ R v aa')
    (m : ∀ v aa', R v aa' → Rk pend (D ||| 2 ^ i) aa' ∧ En aa' (HTh P gl k t pend (D ||| 2 ^ i) (put e d v))) :
    En aa (HTh P gl k (.ef d g i (.raw o) t) pend D e) := by
  refine t_ef (R := R) hg ?_ m
  intro w hs' hG R' hR'
  obtain ⟨v, w', aa', hrun, hG', hs2, hR⟩ := hx w hs' hG
  refine ⟨hk, hs, ?_⟩
  rcases hrun with hrun | ⟨hrun, rfl⟩
  · rw [hrun]; exact hR' v w' aa' hR hG' hs2
  · rw [hrun]; exact hR' undef w' aa' hR hG' hs2

theorem cells_at {b o : Nat} {c : List Value} {T : TypeId} {w : World} {ns : List Value} {m : Nat} (hb : hw w b = some (.cells c.toArray T (0, 0))) (hn : (c.drop o).take m = ns) : ∀ j u, ns[j]? = some u → w.cell? ((⟨b, o, none⟩ : Addr).add j) = some u := by
  intro j u hj
  rw [add_none, cell_hw hb]
  rw [← hn, List.getElem?_take] at hj
  split at hj
  · rw [List.getElem?_drop] at hj; simpa using hj
  · cases hj

theorem hw_drew {w : World} : hw w.drew = hw w := rfl

theorem t_app {d : Option Nat} {g : Option (Nat × Bool)} {t : MT} {pend : Pn} {D i : Nat} {x y : Operand} {st ty E kz by_ : Nat} {z : List Value} {v : Value} {l bx ox m c Tx : Nat} {cs xs ns : List Value} {r1 r2 : List HP} (hT : slI P st = some (E, kz, by_, z))
    (hg : gdv e g = some true) (hx : ev e x = some v) (hy : ev e y = some (.slice (some ⟨bx, ox, none⟩) m c)) (pk1 : Pk aa (OwS E kz v l cs) r1) (pk2 : Pk r1 (Cl bx Tx xs) r2)
    (hz : z.length = kz) (hk0 : 0 < kz) (hm : 0 < m) (hns : (xs.drop ox).take (m * kz) = ns) (hnl : ns.length = m * kz) (h1 : ns.all Value.oneCell' = true) (hb : (l + m) * by_ ≤ 140737488355328) (hl : l + m ≤ 4611686018427387904)
    (mm : ∀ v', Rk pend (D ||| 2 ^ i) (OwS E kz v' (l + m) (cs ++ ns) :: Cl bx Tx xs :: r2) ∧ En (OwS E kz v' (l + m) (cs ++ ns) :: Cl bx Tx xs :: r2) (HTh P gl k t pend (D ||| 2 ^ i) (put e d v'))) :
    En aa (HTh P gl k (.ef d g i (.raw ⟨none, .call ⟨.builtin .append, #[x, y], #[st, st]⟩, ty, "", #[], none⟩) t) pend D e) := by
  obtain ⟨hu, inf, zv, hi, hzv, rfl, rfl, rfl⟩ := slI_spec hT
  refine t_raw (R := fun v' aa' => aa' = OwS E inf.size v' (l + m) (cs ++ ns) :: Cl bx Tx xs :: r2) hg ⟨⟨_, hx⟩, ⟨_, hy⟩, trivial⟩ (by simp) ?_ (by rintro v' _ rfl; exact mm v')
  intro w hs hG
  have hs1 := sep_tail (fun _ => pk2.out) (pk1.out hs)
  obtain ⟨h1', h2', dd, uu, ⟨hlen, how⟩, hr⟩ := hs1
  have hbx2 := Cl_get hr
  have hbx : hw w bx = some (.cells xs.toArray Tx (0, 0)) := by
    rw [uu bx]
    rcases dd bx with h | h
    · rw [h, hbx2]; rfl
    · rw [hbx2] at h; cases h
  have hex : ∀ rr ww, (Builtin.append_ #[st, st] ty #[v, .slice (some ⟨bx, ox, none⟩) m c]).run P w = .ok rr ww → (execOp (evD e) ⟨none, .call ⟨.builtin .append, #[x, y], #[st, st]⟩, ty, "", #[], none⟩).run P w = .ok (.value rr) ww := by
    intro rr ww hrun
    simp [execOp, resolve, evD, hx, hy, invoke, builtin, hrun]
  have hnews := cells_at (w := w) hbx hns
  have hnews' := cells_at (w := w.drew) hbx hns
  have hcl : (cs ++ ns).length = (l + m) * inf.size := by rw [List.length_append, hlen, hnl, Nat.add_mul]
  have hm1 : m ≤ l + m := Nat.le_add_left _ _
  have hgrown : ∀ (old : Nat), old < l + m → ∃ sp : List Value, l + m ≤ grownCap w (l + m) old E ∧ (cs ++ ns ++ sp).length = grownCap w (l + m) old E * inf.size ∧ (Builtin.zeroCells zv.cells (grownCap w (l + m) old E - (l + m))).toList = sp := by
    intro old ho
    have hge : l + m ≤ grownCap w (l + m) old E := by simp [grownCap, Question.cut]
    refine ⟨_, hge, ?_, rfl⟩
    rw [List.length_append, hcl]
    have h5 : (Builtin.zeroCells zv.cells (grownCap w (l + m) old E - (l + m))).toList.length = (grownCap w (l + m) old E - (l + m)) * inf.size := by
      rw [Array.length_toList, size_zeroCells]
      congr 1
    rw [h5, ← Nat.add_mul]
    congr 1; omega
  have halloc : ∀ (sp : List Value) (cap : Nat), l + m ≤ cap → (cs ++ ns ++ sp).length = cap * inf.size →
      Sep (OwS E inf.size (.slice (some ⟨w.heap.size, 0, none⟩) (l + m) cap) (l + m) (cs ++ ns) :: Cl bx Tx xs :: r2) (hw (w.drew.alloc (.cells (cs ++ ns ++ sp).toArray E))) := by
    intro sp cap hc hsl
    have hold : Sep (Cl bx Tx xs :: r2) (hw w.drew) := sep_mono hr fun b o hb => by
      show hw w b = some o
      rw [uu b]
      rcases dd b with h | h
      · rw [h, hb]; rfl
      · rw [hb] at h; cases h
    refine sep_new hold (hw_top (w := w.drew)) hw_alloc (fun k hk => hw_alloc_ne hk) ⟨hcl, .inr ⟨w.heap.size, cap, sp, rfl, hc, hsl, ?_⟩⟩
    exact if_pos rfl
  rcases how with ⟨rfl, rfl⟩ | ⟨b, cap, sp, rfl, hcap, hspl, hbb⟩
  · have hcs : cs = [] := by simpa using hlen
    subst hcs
    have hlaw := run_append_nil (P := P) w st ty E inf zv hu hi hzv ⟨bx, ox, none⟩ m c ns hnl hnews hm (by omega) (by simp at hb; omega)
    obtain ⟨sp, hge, hsl, hsp⟩ := hgrown 0 (by omega)
    have e2 : ns.toArray ++ Builtin.zeroCells zv.cells (grownCap w m 0 E - m) = ([] ++ ns ++ sp).toArray := by
      apply Array.ext'; rw [← hsp]; simp
    rw [e2] at hlaw
    refine ⟨_, _, _, .inl (hex _ _ hlaw), ⟨hG.1, hG.2⟩, ?_, rfl⟩
    have := halloc sp (grownCap w m 0 E) (by simpa using hge) (by simpa using hsl)
    simpa using this
  · have hbw : hw w b = some (.cells (cs ++ sp).toArray E (0, 0)) := by rw [uu b, hbb]; rfl
    by_cases hroom : l + m ≤ cap
    · have hfit : l * inf.size + ns.length ≤ (cs ++ sp).toArray.size := by
        have : (l + m) * inf.size ≤ cap * inf.size := Nat.mul_le_mul_right _ hroom
        rw [Nat.add_mul] at this
        simp only [List.size_toArray]
        rw [hspl, hnl]; exact this
      have hlaw := run_append_room (P := P) w st ty E inf hu hi b l cap (cs ++ sp).toArray hbw ⟨bx, ox, none⟩ m c ns hnl hnews (fun u hu => List.all_eq_true.1 h1 u hu) hroom hfit
      have e2 : ((cs ++ sp).toArray.toList.take (l * inf.size) ++ ns ++ (cs ++ sp).toArray.toList.drop (l * inf.size + ns.length)) = cs ++ ns ++ sp.drop ns.length := by
        rw [← hlen]
        simp [List.drop_append]
      rw [e2] at hlaw
      refine ⟨_, _, _, .inl (hex _ _ hlaw), ⟨hG.1, hG.2⟩, ?_, rfl⟩
      have hnb : h2' b = none := by
        rcases dd b with h | h
        · rw [hbb] at h; cases h
        · exact h
      refine ⟨fun k => if k = b then some (.cells (cs ++ ns ++ sp.drop ns.length).toArray E (0, 0)) else h1' k, h2', fun k => ?_, fun k => ?_, ⟨hcl, .inr ⟨b, cap, sp.drop ns.length, rfl, hroom, ?_, by simp⟩⟩, hr⟩
      · by_cases hk : k = b
        · subst hk; exact .inr hnb
        · simp only [if_neg hk]; exact dd k
      · by_cases hk : k = b
        · subst hk; rw [hw_setRow hbw]; simp
        · rw [hw_setRow_ne hk, uu k]; simp [hk]
      · rw [← hspl]
        simp only [List.length_append, List.length_drop]
        have : cs.length + ns.length ≤ cs.length + sp.length := by
          have h6 := hfit
          rw [← hlen] at h6
          simpa using h6
        omega
    · have hholds : ∀ j u, cs[j]? = some u → w.cell? ((⟨b, 0, none⟩ : Addr).add j) = some u := cells_at hbw (o := 0) (m := cs.length) (by simp)
      have hlaw := run_append_grow (P := P) w st ty E inf zv hu hi hzv ⟨b, 0, none⟩ l cap cs hlen hholds ⟨bx, ox, none⟩ m c ns hnl hnews (by omega) (by omega) (growslice_fits (by omega) hb)
      obtain ⟨sp2, hge, hsl, hsp⟩ := hgrown cap (by omega)
      have e2 : cs.toArray ++ ns.toArray ++ Builtin.zeroCells zv.cells (grownCap w (l + m) cap E - (l + m)) = (cs ++ ns ++ sp2).toArray := by
        apply Array.ext'; rw [← hsp]; simp
      rw [e2] at hlaw
      exact ⟨_, _, _, .inl (hex _ _ hlaw), ⟨hG.1, hG.2⟩, halloc sp2 _ hge hsl, rfl⟩

theorem fill_all (size : Nat) : ∀ (vs : List Value) (i : Nat) (cs : Array Value), cs.size = (i + vs.length) * size → (vs.all fun v => v.cells.size == size) = true →
    Instr.fill (fun i => some (i * size, size)) cs ((vs.zipIdx i).map fun x => (x.2, x.1)) = some (cs.toList.take (i * size) ++ vs.flatMap (·.cells.toList)).toArray
  | [], i, cs, h, _ => by
    simp only [List.length_nil, Nat.add_zero] at h
    have e1 : cs.toList.take (i * size) = cs.toList := by rw [← h]; exact List.take_of_length_le (by simp)
    simp [Instr.fill, e1]
  | v :: vs, i, cs, h, ha => by
    simp only [List.all_cons, Bool.and_eq_true, beq_iff_eq] at ha
    obtain ⟨h1, h2⟩ := ha
    simp only [List.length_cons] at h
    have hexp : (i + (vs.length + 1)) * size = i * size + size + vs.length * size := by
      rw [Nat.add_mul, Nat.add_mul]; omega
    simp only [List.zipIdx_cons, List.map_cons, Instr.fill]
    have hc : ¬ ((decide (v.cells.size ≠ size) || decide (i * size + v.cells.size > cs.size)) = true) := by
      simp [h1]; omega
    rw [if_neg hc]
    have hsp : (v.cells.zipIdx.foldl (fun (cs : Array Value) (x : Value × Nat) => cs.setIfInBounds (i * size + x.2) x.1) cs).toList = splice cs.toList (i * size) v.cells.toList := by
      rw [← Array.foldl_toList, Array.toList_zipIdx]
      exact set_splice (i * size) v.cells.toList 0 cs (by simp [h1]; omega)
    have hlen : (splice cs.toList (i * size) v.cells.toList).length = cs.size := by
      simp only [splice, List.length_append, List.length_take, List.length_drop, Array.length_toList, h1]; omega
    have ih := fill_all size vs (i + 1) (v.cells.zipIdx.foldl (fun (cs : Array Value) (x : Value × Nat) => cs.setIfInBounds (i * size + x.2) x.1) cs)
      (by rw [← Array.length_toList, hsp, hlen, h]; congr 1; omega) h2
    refine ih.trans ?_
    congr 2
    rw [hsp]
    have e1 : (splice cs.toList (i * size) v.cells.toList).take ((i + 1) * size) = cs.toList.take (i * size) ++ v.cells.toList := by
      have h3 : (i + 1) * size = (cs.toList.take (i * size) ++ v.cells.toList).length := by
        simp only [List.length_append, List.length_take, Array.length_toList, h1]; rw [Nat.add_mul]; omega
      rw [splice, h3, List.take_left']
      rfl
    rw [e1]
    simp

theorem t_bsl {d : Option Nat} {g : Option (Nat × Bool)} {t : MT} {pend : Pn} {D i : Nat} {parts : Array (Nat × Operand)} {st ty E kz by_ len : Nat} {z : List Value} {vs : List Value} (hT : slI P st = some (E, kz, by_, z))
    (hg : gdv e g = some true) (hv : evs e (parts.toList.map (·.2)) = some vs) (hi : parts.toList.map (·.1) = List.range len) (hz : z.length = kz) (hk0 : Nat.blt 0 kz = true) (hl0 : Nat.blt 0 len = true) (hsm : Nat.ble (len * kz) 16777216 = true) (hall : (vs.all fun v => v.cells.size == kz) = true)
    (mm : ∀ b, Rk pend (D ||| 2 ^ i) (Cl b E (vs.flatMap (·.cells.toList)) :: aa) ∧ En (Cl b E (vs.flatMap (·.cells.toList)) :: aa) (HTh P gl k t pend (D ||| 2 ^ i) (put e d (.slice (some ⟨b, 0, none⟩) len len)))) :
    En aa (HTh P gl k (.ef d g i (.raw ⟨none, .buildSlice st len parts, ty, "", #[], none⟩) t) pend D e) := by
  obtain ⟨hu, inf, zv, hin, hzv, rfl, rfl, rfl⟩ := slI_spec hT
  have hk0' : 0 < inf.size := by simpa [Nat.blt_eq] using hk0
  have hl0' : 0 < len := by simpa [Nat.blt_eq] using hl0
  have hsm' : len * inf.size ≤ 16777216 := Nat.le_of_ble_eq_true hsm
  have hpos : 0 < len * inf.size := Nat.mul_pos hl0' hk0'
  have hkn : known e (Op.buildSlice st len parts).operands.toList := by
    simp only [Op.operands]
    have : ∀ (xs : List Operand) (vs : List Value), evs e xs = some vs → known e xs := by
      intro xs
      induction xs with
      | nil => intro _ _; trivial
      | cons x xs ih =>
        intro vs h
        simp only [evs] at h
        split at h
        · rename_i v vs' h1 h2; exact ⟨⟨v, h1⟩, ih vs' h2⟩
        · cases h
    simpa using this _ _ hv
  refine t_raw (R := fun v' aa' => ∃ b, v' = .slice (some ⟨b, 0, none⟩) len len ∧ aa' = Cl b E (vs.flatMap (·.cells.toList)) :: aa) hg hkn (by simp) ?_ (by rintro v' _ ⟨b, rfl, rfl⟩; exact mm b)
  intro w hs hG
  have hag : Agr e (evD e) := by intro y u hy; simp [evD, hy]
  have hmap : (parts.toList.map (·.2)).map (evD e) = vs := evs_spec _ _ hv hag
  have hlen : vs.length = len := by
    have := congrArg List.length hi
    rw [← hmap]; simpa using this
  have hpart : (parts.map fun (x : Nat × Operand) => (x.1, evD e x.2)).toList = (vs.zipIdx 0).map fun x => (x.2, x.1) := by
    rw [Array.toList_map]
    apply List.ext_getElem?
    intro j
    rw [List.getElem?_map, List.getElem?_map, List.getElem?_zipIdx]
    have h1 := congrArg (·[j]?) hi
    have h2 := congrArg (·[j]?) hmap
    simp only [List.getElem?_map] at h1 h2
    cases hp : parts.toList[j]? with
    | none => rw [hp] at h2; simp only [Option.map_none] at h2; rw [← h2]; rfl
    | some p =>
      rw [hp] at h1 h2
      simp at h1 h2
      have hj : j < len := by
        have := (List.getElem?_eq_some_iff.1 hp).1
        rw [← hlen, ← hmap]; simpa using this
      rw [List.getElem?_range hj] at h1
      simp at h1
      rw [← h2]; simp [h1]
  have hf := fill_all inf.size vs 0 ((Array.range (len * inf.size)).map (zv.cells[· % zv.cells.size]!)) (by simp [hlen]) hall
  have hrun := run_buildSlice (P := P) w st E len (parts.map fun (x : Nat × Operand) => (x.1, evD e x.2)) _ inf zv hu hin hzv (by omega) (by omega) (by rw [hpart]; exact hf)
  refine ⟨_, w.alloc (.cells (vs.flatMap (·.cells.toList)).toArray E), _, .inl ?_, ⟨hG.1, hG.2⟩, ?_, w.heap.size, rfl, rfl⟩
  · simp only [execOp, Sem.run_bind]
    have : (parts.map fun (x : Nat × Operand) => match x with | (i, x) => (i, evD e x)) = parts.map fun (x : Nat × Operand) => (x.1, evD e x.2) := rfl
    rw [this, hrun]
    simp
  · exact sep_new hs hw_top hw_alloc (fun k hk => hw_alloc_ne hk) (by simp [Cl])

theorem en_ows {E kz l : Nat} {v : Value} {cs : List Value} (pk : Pk aa (OwS E kz v l cs) r) (m : ∀ a c, v = .slice a l c → En aa J) : En aa J := by
  intro h hs
  obtain ⟨h1, h2, d, u, ⟨_, hx⟩, hr⟩ := pk.out hs
  rcases hx with ⟨rfl, rfl⟩ | ⟨b, cap, sp, rfl, _⟩
  · exact m _ _ rfl h hs
  · exact m _ _ rfl h hs
theorem en_x {x : HP} (y : HP) (pk : Pk aa x r) (h : x = y) (m : En (y :: r) J) : En aa J := by subst h; exact fun g hs => m g (pk.out hs)
theorem en_own {E kz : Nat} (m : En (OwS E kz (.slice none 0 0) 0 [] :: aa) J) : En aa J := en_emp (x := OwS E kz (.slice none 0 0) 0 []) ⟨by simp, .inl ⟨rfl, rfl⟩⟩ m
end
end Go.Dv

/- Maps of the call's own. -/
namespace Go.Dv
open Go Go.ChangeMaps Go.MapKept

def keyOk (P : Program) (k : TypeId) (v : Value) : Prop := ∃ kl, keyOf P k v = some kl
/-- The block b is a map with these entries, each key once. -/
def MpO (P : Program) (k : TypeId) (b : Nat) (l : List (Value × Value)) : HP := fun h => ∃ (es : Array MapEntry) (clock : Nat), h b = some (.map es clock) ∧ es.toList.map (fun x => (x.key, x.val)) = l ∧
  (∀ x ∈ l, keyOk P k x.1) ∧ l.Pairwise fun x y => x.1 ≠ y.1

theorem MpO_get {P : Program} {k : TypeId} {b : Nat} {l : List (Value × Value)} {r : List HP} {h : PH} (hs : Sep (MpO P k b l :: r) h) : MpO P k b l h := by
  obtain ⟨h1, h2, d, u, ⟨es, c, hb, hl, hk, hd⟩, _⟩ := hs
  exact ⟨es, c, by rw [u b, hb]; rfl, hl, hk, hd⟩
theorem MpO_set {P : Program} {k : TypeId} {b : Nat} {l l' : List (Value × Value)} {r : List HP} {h h' : PH} (hs : Sep (MpO P k b l :: r) h) (hb : MpO P k b l' h') (ho : ∀ j, j ≠ b → h' j = h j) : Sep (MpO P k b l' :: r) h' := by
  obtain ⟨h1, h2, d, u, ⟨es, c, hb1, hl, hk, hd⟩, hr⟩ := hs
  obtain ⟨es', c', hb', hl', hk', hd'⟩ := hb
  have h2b : h2 b = none := by
    rcases d b with h | h
    · rw [hb1] at h; cases h
    · exact h
  refine ⟨fun j => if j = b then some (.map es' c') else h1 j, h2, fun j => ?_, fun j => ?_, ⟨es', c', if_pos rfl, hl', hk', hd'⟩, hr⟩
  · by_cases hj : j = b
    · subst hj; exact .inr h2b
    · simp only [if_neg hj]; exact d j
  · by_cases hj : j = b
    · subst hj; rw [hb']; simp
    · rw [ho j hj, u j]; simp [hj]

theorem hw_setBlock {w : World} {b : Nat} {o o' : Obj} (h : hw w b = some o) : hw (setBlock w b o') b = some o' := by
  unfold hw setBlock at *
  simp only
  rw [Array.getElem?_setIfInBounds_self]
  have : b < w.heap.size := by
    rw [Array.getElem?_eq_some_iff] at h; exact h.1
  simp [this]
theorem hw_setBlock_ne {w : World} {b j : Nat} {o' : Obj} (h : j ≠ b) : hw (setBlock w b o') j = hw w j := by
  unfold hw setBlock
  simp only
  rw [Array.getElem?_setIfInBounds_ne (Ne.symm h)]

section
variable {P : Program} {gl : Gl} {n : Nat} {aa r : List HP} {J : PH → Prop} {e : Env} {K : Kx} {k : Env → PH → Prop}

theorem t_mkm {d : Option Nat} {g : Option (Nat × Bool)} {t : MT} {pend : Pn} {D i : Nat} (kt : TypeId) {ty mt : TypeId}
    (hg : gdv e g = some true)
    (mm : ∀ b, Rk pend (D ||| 2 ^ i) (MpO P kt b [] :: aa) ∧ En (MpO P kt b [] :: aa) (HTh P gl k t pend (D ||| 2 ^ i) (put e d (.map (some b))))) :
    En aa (HTh P gl k (.ef d g i (.raw ⟨none, .makeMap mt none, ty, "", #[], none⟩) t) pend D e) := by
  refine t_raw (R := fun v' aa' => ∃ b, v' = .map (some b) ∧ aa' = MpO P kt b [] :: aa) hg (by simp [Op.operands, known]) (by simp) ?_ (by rintro v' _ ⟨b, rfl, rfl⟩; exact mm b)
  intro w hs hG
  have hmk : (Instr.makeMap mt none).run P w = .ok (.map (some w.heap.size)) (w.alloc (.map #[] 0)) := rfl
  refine ⟨_, w.alloc (.map #[] 0), _, .inl (by simp [execOp, hmk]), ⟨hG.1, hG.2⟩, ?_, w.heap.size, rfl, rfl⟩
  exact sep_new hs hw_top hw_alloc (fun k hk => hw_alloc_ne hk) ⟨#[], 0, if_pos rfl, rfl, by simp, List.Pairwise.nil⟩

theorem keys_ok {kt : TypeId} {l : List (Value × Value)} {es : Array MapEntry} (hl : es.toList.map (fun x => (x.key, x.val)) = l) (hk : ∀ x ∈ l, keyOk P kt x.1) : ∀ x ∈ es.toList, ∃ kl, keyOf P kt x.key = some kl := by
  intro x hx
  exact hk (x.key, x.val) (by rw [← hl]; exact List.mem_map.2 ⟨x, hx, rfl⟩)

theorem key_once {l : List (Value × Value)} (hd : l.Pairwise fun x y => x.1 ≠ y.1) {a v v' : Value} (h1 : (a, v) ∈ l) (h2 : (a, v') ∈ l) : v = v' := by
  induction l with
  | nil => cases h1
  | cons x l ih =>
    obtain ⟨h3, h4⟩ := List.pairwise_cons.1 hd
    rcases List.mem_cons.1 h1 with h1 | h1
    · rcases List.mem_cons.1 h2 with h2 | h2
      · have := h1.trans h2.symm
        simpa using this
      · exact absurd (by rw [← h1]) (h3 _ h2)
    · rcases List.mem_cons.1 h2 with h2 | h2
      · exact absurd (by rw [← h2]) (h3 _ h1)
      · exact ih h4 h1 h2
theorem look_run {kt et mt : TypeId} {b : Nat} {l : List (Value × Value)} {kv v z : Value} {w : World} (KK : Maps.Keyed P kt) (ht : P.underlying mt = some (.map kt et)) (hz : (zeroValue et).run P w = .ok z w) (hkey : keyOk P kt kv)
    (hm : MpO P kt b l (hw w)) (hv : ((∀ x ∈ l, x.1 ≠ kv) ∧ v = z) ∨ (kv, v) ∈ l) : (Instr.lookup mt (.map (some b)) kv false).run P w = .ok v w := by
  obtain ⟨es, clock, hb, hl, hk, hd⟩ := hm
  obtain ⟨kl, hkl⟩ := hkey
  have hb' : w.heap[b]? = some (.map es clock) := hb
  rcases KK.find w hkl es.toList (keys_ok hl hk) with ⟨h1, h2⟩ | ⟨j, e0, h1, h2, h3⟩
  · rcases hv with ⟨_, rfl⟩ | hv
    · simp [Instr.lookup, run_underlying ht, MapKept.run_getObj_map hb', KK.check w _ hkl, h1, hz, Result.andThen]
    · rw [← hl] at hv
      obtain ⟨x, hx, hxe⟩ := List.mem_map.1 hv
      simp only [Prod.mk.injEq] at hxe
      exact absurd hxe.1 (h2 x hx)
  · have hmem : (kv, e0.val) ∈ l := by
      rw [← hl, ← h3]; exact List.mem_map.2 ⟨e0, List.mem_of_getElem? h2, rfl⟩
    rcases hv with ⟨hv, _⟩ | hv
    · exact absurd rfl (hv _ hmem)
    · have : v = e0.val := by
        exact key_once hd hv hmem
      subst this
      simp [Instr.lookup, run_underlying ht, MapKept.run_getObj_map hb', KK.check w _ hkl, h1, Result.andThen]

theorem look_rv {kt et mt ty : TypeId} {x y : Operand} {b : Nat} {l : List (Value × Value)} {kv v z : Value} (KK : Maps.Keyed P kt) (ht : P.underlying mt = some (.map kt et)) (hz : ∀ w : World, (zeroValue et).run P w = .ok z w)
    (hx : ev e x = some (.map (some b))) (hy : ev e y = some kv) (hkey : keyOk P kt kv) (pk : Pk aa (MpO P kt b l) r) (hv : ((∀ x ∈ l, x.1 ≠ kv) ∧ v = z) ∨ (kv, v) ∈ l) :
    En aa (fun h => RV P h e (.raw ⟨none, .lookup mt x y false, ty, "", #[], none⟩) v) := by
  intro h hs
  refine ⟨⟨⟨_, hx⟩, ⟨_, hy⟩, trivial⟩, by simp, ?_⟩
  rintro w rfl
  have := look_run (w := w) KK ht (hz w) hkey (MpO_get (pk.out hs)) hv
  simp [execOp, evD, hx, hy, this]

theorem t_ups {d : Option Nat} {g : Option (Nat × Bool)} {t : MT} {pend : Pn} {D i : Nat} {kt et mt ty : TypeId} {x y z : Operand} {b : Nat} {l : List (Value × Value)} {kv v : Value} (KK : Maps.Keyed P kt) (ht : P.underlying mt = some (.map kt et))
    (hg : gdv e g = some true) (hx : ev e x = some (.map (some b))) (hy : ev e y = some kv) (hz : ev e z = some v) (hkey : keyOk P kt kv) (pk : Pk aa (MpO P kt b l) r) (hv : ∀ x ∈ l, x.1 ≠ kv)
    (mm : Rk pend (D ||| 2 ^ i) (MpO P kt b (l ++ [(kv, v)]) :: r) ∧ En (MpO P kt b (l ++ [(kv, v)]) :: r) (HTh P gl k t pend (D ||| 2 ^ i) (put e d undef))) :
    En aa (HTh P gl k (.ef d g i (.raw ⟨none, .mapUpdate mt x y z, ty, "", #[], none⟩) t) pend D e) := by
  refine t_raw (R := fun v' aa' => v' = undef ∧ aa' = MpO P kt b (l ++ [(kv, v)]) :: r) hg ⟨⟨_, hx⟩, ⟨_, hy⟩, ⟨_, hz⟩, trivial⟩ (by simp) ?_ (by rintro v' _ ⟨rfl, rfl⟩; exact mm)
  intro w hs hG
  have hs1 := pk.out hs
  obtain ⟨es, clock, hb, hl, hk, hd⟩ := MpO_get hs1
  obtain ⟨kl, hkl⟩ := hkey
  have hb' : w.heap[b]? = some (.map es clock) := hb
  rcases KK.find w hkl es.toList (keys_ok hl hk) with ⟨h1, h2⟩ | ⟨j, e0, h1, h2, h3⟩
  · have hrun : (Instr.mapUpdate mt (.map (some b)) kv v).run P w = .ok () (setBlock w b (.map (es.push ⟨kv, v, clock⟩) (clock + 1))) := by
      simp [Instr.mapUpdate, run_underlying ht, MapKept.run_getObj_map hb', KK.check w _ hkl, h1, MapKept.run_setObj_map _ hb', Result.andThen, setBlock]
    refine ⟨undef, setBlock w b (.map (es.push ⟨kv, v, clock⟩) (clock + 1)), _, .inr ⟨by simp [execOp, evD, hx, hy, hz, hrun], rfl⟩, ⟨hG.1, hG.2⟩, ?_, rfl, rfl⟩
    refine MpO_set hs1 ⟨_, _, hw_setBlock hb, ?_, ?_, ?_⟩ fun j hj => hw_setBlock_ne hj
    · simp [hl]
    · intro x hx
      rcases List.mem_append.1 hx with hx | hx
      · exact hk x hx
      · simp only [List.mem_singleton] at hx; subst hx; exact ⟨kl, hkl⟩
    · rw [List.pairwise_append]
      refine ⟨hd, List.pairwise_singleton _ _, ?_⟩
      intro a ha c hc
      simp only [List.mem_singleton] at hc; subst hc; exact hv a ha
  · exact absurd rfl (hv (kv, e0.val) (by rw [← hl, ← h3]; exact List.mem_map.2 ⟨e0, List.mem_of_getElem? h2, rfl⟩))

open Classical in
theorem erase_filter {l : List (Value × Value)} {j : Nat} {x : Value × Value} (hd : l.Pairwise fun x y => x.1 ≠ y.1) (hj : l[j]? = some x) : l.eraseIdx j = l.filter fun y => decide (y.1 ≠ x.1) := by
  induction l generalizing j with
  | nil => simp at hj
  | cons a l ih =>
    obtain ⟨h1, h2⟩ := List.pairwise_cons.1 hd
    cases j with
    | zero =>
      simp only [List.getElem?_cons_zero, Option.some.injEq] at hj
      subst hj
      simp only [List.eraseIdx_cons_zero, List.filter_cons, ne_eq, not_true_eq_false, decide_false, Bool.false_eq_true, if_false]
      symm
      rw [List.filter_eq_self]
      intro y hy
      simpa using fun h => h1 y hy h.symm
    | succ j =>
      simp only [List.getElem?_cons_succ] at hj
      have hx : x ∈ l := List.mem_of_getElem? hj
      simp only [List.eraseIdx_cons_succ, List.filter_cons]
      rw [if_pos (by simpa using h1 x hx), ih h2 hj]

open Classical in
theorem t_del {d : Option Nat} {g : Option (Nat × Bool)} {t : MT} {pend : Pn} {D i : Nat} {kt et mt ty : TypeId} {x y : Operand} {b : Nat} {l : List (Value × Value)} {kv : Value} (KK : Maps.Keyed P kt) (ht : P.underlying mt = some (.map kt et))
    (hg : gdv e g = some true) (hx : ev e x = some (.map (some b))) (hy : ev e y = some kv) (hkey : keyOk P kt kv) (pk : Pk aa (MpO P kt b l) r)
    (mm : Rk pend (D ||| 2 ^ i) (MpO P kt b (l.filter fun y => decide (y.1 ≠ kv)) :: r) ∧ En (MpO P kt b (l.filter fun y => decide (y.1 ≠ kv)) :: r) (HTh P gl k t pend (D ||| 2 ^ i) (put e d (.tuple #[])))) :
    En aa (HTh P gl k (.ef d g i (.raw ⟨none, .call ⟨.builtin .delete, #[x, y], #[mt, kt]⟩, ty, "", #[], none⟩) t) pend D e) := by
  refine t_raw (R := fun v' aa' => v' = .tuple #[] ∧ aa' = MpO P kt b (l.filter fun y => decide (y.1 ≠ kv)) :: r) hg ⟨⟨_, hx⟩, ⟨_, hy⟩, trivial⟩ (by simp) ?_ (by rintro v' _ ⟨rfl, rfl⟩; exact mm)
  intro w hs hG
  have hs1 := pk.out hs
  obtain ⟨es, clock, hb, hl, hk, hd⟩ := MpO_get hs1
  obtain ⟨kl, hkl⟩ := hkey
  have hb' : w.heap[b]? = some (.map es clock) := hb
  have hex : ∀ ww, (Builtin.delete_ #[mt, kt] ty #[.map (some b), kv]).run P w = .ok (.tuple #[]) ww → (execOp (evD e) ⟨none, .call ⟨.builtin .delete, #[x, y], #[mt, kt]⟩, ty, "", #[], none⟩).run P w = .ok (.value (.tuple #[])) ww := by
    intro ww hrun
    simp [execOp, resolve, evD, hx, hy, invoke, builtin, hrun]
  have hsubl : ∀ x ∈ l.filter (fun y => decide (y.1 ≠ kv)), keyOk P kt x.1 := fun x hx => hk x (List.mem_filter.1 hx).1
  rcases KK.find w hkl es.toList (keys_ok hl hk) with ⟨h1, h2⟩ | ⟨j, e0, h1, h2, h3⟩
  · have hrun : (Builtin.delete_ #[mt, kt] ty #[.map (some b), kv]).run P w = .ok (.tuple #[]) (setBlock w b (.map es clock)) := by
      simp [Builtin.delete_, run_underlying ht, MapKept.run_getObj_map hb', KK.check w _ hkl, h1, MapKept.run_setObj_map _ hb', Result.andThen, setBlock]
    refine ⟨_, setBlock w b (.map es clock), _, .inl (hex _ hrun), ⟨hG.1, hG.2⟩, ?_, rfl, rfl⟩
    have e1 : l.filter (fun y => decide (y.1 ≠ kv)) = l := by
      rw [List.filter_eq_self]
      intro y hy
      rw [← hl] at hy
      obtain ⟨x, hx, rfl⟩ := List.mem_map.1 hy
      simpa using h2 x hx
    rw [e1]
    exact MpO_set hs1 ⟨_, _, hw_setBlock hb, hl, hk, hd⟩ fun j hj => hw_setBlock_ne hj
  · have hjs : j < es.size := by
      have := (List.getElem?_eq_some_iff.1 h2).1
      simpa using this
    have hsub : (es.eraseIdxIfInBounds j).toList = es.toList.eraseIdx j := by
      unfold Array.eraseIdxIfInBounds
      rw [dif_pos hjs]
      simp
    have hrun : (Builtin.delete_ #[mt, kt] ty #[.map (some b), kv]).run P w = .ok (.tuple #[]) (setBlock w b (.map (es.eraseIdxIfInBounds j) clock)) := by
      simp [Builtin.delete_, run_underlying ht, MapKept.run_getObj_map hb', KK.check w _ hkl, h1, MapKept.run_setObj_map _ hb', Result.andThen, setBlock]
    refine ⟨_, setBlock w b (.map (es.eraseIdxIfInBounds j) clock), _, .inl (hex _ hrun), ⟨hG.1, hG.2⟩, ?_, rfl, rfl⟩
    have e1 : (es.eraseIdxIfInBounds j).toList.map (fun x => (x.key, x.val)) = l.filter (fun y => decide (y.1 ≠ kv)) := by
      rw [hsub, map_eraseIdx, hl]
      have := erase_filter (x := (e0.key, e0.val)) hd (j := j) (by rw [← hl]; simp [h2])
      rw [this, h3]
    refine MpO_set hs1 ⟨_, _, hw_setBlock hb, e1, hsubl, hd.sublist List.filter_sublist⟩ fun j hj => hw_setBlock_ne hj

end
end Go.Dv

/- Rounds; rows that are read. -/
namespace Go.Dv
open Go

section
variable {P : Program} {gl : Gl} {n : Nat} {aa r : List HP} {J : PH → Prop} {e : Env} {K : Kx} {k : Env → PH → Prop}

theorem m_lp {b : MC} {α : Type} (E : α → Env) (A : α → List HP) (φ : α → Prop) (μ : α → Nat)
    (m : ∀ z, φ z → En (A z) (HM P n gl b (seqK (Meet E A fun y => φ y ∧ μ y < μ z) K) (E z)))
    (z : α) (h1 : φ z) (L : List Nat) (h2 : selO e L = some (E z)) (sx : Sx aa (A z) r) : En aa (HM P n gl (.loop b) K e) := by
  intro h hs
  refine hm_loop (fun x e h => φ x ∧ Env.le (E x) e ∧ Sep (A x) h) μ z ⟨h1, selO_get h2, sep_left (sx.out hs)⟩ ?_
  rintro x e h ⟨hφ, hle, hs⟩
  refine hm_less hle (hm_mono ?_ (m x hφ h hs))
  intro ex e' h' hk
  cases ex with
  | normal => obtain ⟨y, ⟨q1, q2⟩, q3, q4⟩ := hk; exact ⟨y, q2, q1, q3, q4⟩
  | _ => exact hk

theorem t_ia {d sz : Nat} {g : Option (Nat × Bool)} {x y : Operand} {t : MT} {pend : Pn} {D b o len c : Nat} {q : IntKind} (i : Nat) (hg : gdv e g = some true)
    (hx : ev e x = some (.slice (some ⟨b, o, none⟩) len c)) (hy : ev e y = some (.int q (i : Int))) (hb : i < len) (m : En aa (HTh P gl k t pend D ((d, .pointer (some ⟨b, o + i * sz, none⟩)) :: e))) :
    En aa (HTh P gl k (.rd (some d) g none (.ia sz x y) t) pend D e) := by
  refine t_c hg (fun h => ?_) m
  simp only [RV, rv, hx, hy]
  rw [if_pos ⟨Int.natCast_nonneg _, by omega⟩]
  rfl

theorem ld_at {x : Operand} {c : Option Nat} {b o : Nat} {R : HP} {v : Value} (hx : ev e x = some (.pointer (some ⟨b, o, none⟩))) (pk : Pk aa R r)
    (hv : ∀ h, R h → ∃ arr T fz, h b = some (.cells arr T fz) ∧ atCells c arr.toList o = some v) : En aa (fun h => RV P h e (.ld c x) v) := by
  intro h hs
  obtain ⟨h1, h2, d, u, hR, _⟩ := pk.out hs
  obtain ⟨arr, T, fz, h3, h4⟩ := hv h1 hR
  have : h b = some (.cells arr T fz) := by rw [u b, h3]; rfl
  simp [RV, rv, hx, this, h4]
theorem t_la {d : Nat} {g : Option (Nat × Bool)} {x : Operand} {c : Option Nat} {t : MT} {pend : Pn} {D : Nat} {v : Value} {o : Option Nat} {b f : Nat} {R : HP} (hg : gdv e g = some true)
    (hx : ev e x = some (.pointer (some ⟨b, f, none⟩))) (pk : Pk aa R r) (hv : ∀ h, R h → ∃ arr T fz, h b = some (.cells arr T fz) ∧ atCells c arr.toList f = some v) (m : En aa (HTh P gl k t (remember P o e (.ld c x) v pend) D ((d, v) :: e))) :
    En aa (HTh P gl k (.rd (some d) g o (.ld c x) t) pend D e) := t_r hg (ld_at hx pk hv) m

/-- Where R is, v is a slice of these elements, k cells each. -/
def RdS (R : HP) (k : Nat) (v : Value) (xs : List (List Value)) : Prop := (∀ x ∈ xs, x.length = k) ∧
  ((xs = [] ∧ ∃ a c, v = .slice a 0 c) ∨ ∃ b o c, v = .slice (some ⟨b, o, none⟩) xs.length c ∧ ∀ h, R h → ∃ arr T fz, h b = some (.cells arr T fz) ∧ (arr.toList.drop o).take (xs.length * k) = xs.flatten)

theorem flat_at {k : Nat} : ∀ {xs : List (List Value)} {i : Nat} {x : List Value}, (∀ x ∈ xs, x.length = k) → xs[i]? = some x → (xs.flatten.drop (i * k)).take k = x ∧ i * k + k ≤ xs.flatten.length
  | [], i, x, _, h => by simp at h
  | y :: xs, 0, x, hk, h => by
    simp only [List.getElem?_cons_zero, Option.some.injEq] at h
    subst h
    have := hk y (by simp)
    refine ⟨?_, by simp [this]⟩
    rw [Nat.zero_mul, List.drop_zero, List.flatten_cons, ← this, List.take_left']
    rfl
  | y :: xs, i + 1, x, hk, h => by
    simp only [List.getElem?_cons_succ] at h
    obtain ⟨h1, h2⟩ := flat_at (fun x hx => hk x (by simp [hx])) h
    have hy := hk y (by simp)
    have e1 : (i + 1) * k = y.length + i * k := by rw [hy, Nat.add_mul]; omega
    refine ⟨?_, ?_⟩
    · rw [e1, List.flatten_cons, List.drop_append]
      simp only [Nat.add_sub_cancel_left]
      rw [List.drop_eq_nil_of_le (by omega), List.nil_append]
      exact h1
    · rw [e1, List.flatten_cons, List.length_append]; omega

theorem RdS.at {R : HP} {k : Nat} {b o c len : Nat} {xs : List (List Value)} (h : RdS R k (.slice (some ⟨b, o, none⟩) len c) xs) (hk0 : 0 < k) {i : Nat} {x : List Value} (hi : xs[i]? = some x) :
    ∀ h, R h → ∃ arr T fz, h b = some (.cells arr T fz) ∧ atCells (some k) arr.toList (o + i * k) = some (.agg x.toArray) := by
  obtain ⟨hk, h⟩ := h
  rcases h with ⟨rfl, _⟩ | ⟨b', o', c', he, hR⟩
  · simp at hi
  · simp only [Value.slice.injEq, Option.some.injEq, Addr.mk.injEq] at he
    obtain ⟨⟨rfl, rfl, _⟩, rfl, rfl⟩ := he
    intro g hg
    obtain ⟨arr, T, fz, h1, h2⟩ := hR g hg
    obtain ⟨h3, h4⟩ := flat_at hk hi
    refine ⟨arr, T, fz, h1, ?_⟩
    rw [← h2] at h3 h4
    simp only [List.length_take, List.length_drop] at h4
    rw [List.drop_take, List.take_take, List.drop_drop] at h3
    have e1 : min k (xs.length * k - i * k) = k := by omega
    rw [e1] at h3
    simp only [atCells]
    have h5 : 0 < arr.toList.length - o := by omega
    rw [if_pos (by omega), h3]
theorem RdS.at1 {R : HP} {b o c len : Nat} {xs : List (List Value)} (h : RdS R 1 (.slice (some ⟨b, o, none⟩) len c) xs) {i : Nat} {v : Value} (hi : xs[i]? = some [v]) :
    ∀ h, R h → ∃ arr T fz, h b = some (.cells arr T fz) ∧ atCells none arr.toList (o + i * 1) = some v := by
  intro g hg
  obtain ⟨arr, T, fz, h1, h2⟩ := h.at (by decide) hi g hg
  refine ⟨arr, T, fz, h1, ?_⟩
  simp only [atCells] at h2 ⊢
  split at h2
  · rename_i hle
    simp only [Option.some.injEq, Value.agg.injEq] at h2
    have h3 := congrArg Array.toList h2
    simp only at h3
    have h4 := congrArg (·[0]?) h3
    simp only [List.getElem?_take, List.getElem?_drop] at h4
    simpa using h4
  · cases h2
theorem RdS.len {R : HP} {k : Nat} {v : Value} {xs : List (List Value)} (h : RdS R k v xs) : ∃ a c, v = .slice a xs.length c := by
  obtain ⟨_, ⟨rfl, a, c, rfl⟩ | ⟨b, o, c, rfl, _⟩⟩ := h
  · exact ⟨a, c, rfl⟩
  · exact ⟨_, c, rfl⟩
theorem RdS.ptr {R : HP} {k : Nat} {a : Option Addr} {len c : Nat} {xs : List (List Value)} (h : RdS R k (.slice a len c) xs) (hp : 0 < xs.length) : ∃ b o, a = some ⟨b, o, none⟩ ∧ len = xs.length := by
  obtain ⟨_, ⟨rfl, _⟩ | ⟨b, o, c, he, _⟩⟩ := h
  · simp at hp
  · simp only [Value.slice.injEq] at he; exact ⟨b, o, he.1, he.2.1⟩

theorem rds_cl {b T k c : Nat} {xs : List (List Value)} (hk : ∀ x ∈ xs, x.length = k) : RdS (Cl b T xs.flatten) k (.slice (some ⟨b, 0, none⟩) xs.length c) xs := by
  refine ⟨hk, .inr ⟨b, 0, c, rfl, fun h hh => ⟨_, T, (0, 0), hh, ?_⟩⟩⟩
  have : xs.flatten.length = xs.length * k := by
    clear hh
    induction xs with
    | nil => simp
    | cons x xs ih => rw [List.flatten_cons, List.length_append, ih fun x hx => hk x (by simp [hx]), hk x (by simp), List.length_cons, Nat.add_mul]; omega
  show (List.drop 0 (xs.flatten.toArray).toList).take _ = _
  rw [List.drop_zero, List.toList_toArray]
  exact List.take_of_length_le (Nat.le_of_eq this)
end
end Go.Dv

/- Rows that are read, added to one of the call's own. -/
namespace Go.Dv
open Go

section
variable {P : Program} {gl : Gl} {n : Nat} {aa r : List HP} {J : PH → Prop} {e : Env} {K : Kx} {k : Env → PH → Prop}

theorem t_apG {d : Option Nat} {g : Option (Nat × Bool)} {t : MT} {pend : Pn} {D i : Nat} {x y : Operand} {st ty E kz by_ : Nat} {z : List Value} {v : Value} {l bx ox m c : Nat} {cs ns : List Value} {r1 : List HP} (hT : slI P st = some (E, kz, by_, z))
    (hg : gdv e g = some true) (hx : ev e x = some v) (hy : ev e y = some (.slice (some ⟨bx, ox, none⟩) m c)) (pk1 : Pk aa (OwS E kz v l cs) r1) (hrd : ∀ w, Sep aa (hw w) → ∀ j u, ns[j]? = some u → w.cell? ((⟨bx, ox, none⟩ : Addr).add j) = some u)
    (hz : z.length = kz) (hk0 : 0 < kz) (hm : 0 < m) (hnl : ns.length = m * kz) (h1 : ns.all Value.oneCell' = true) (hb : (l + m) * by_ ≤ 140737488355328) (hl : l + m ≤ 4611686018427387904)
    (mm : ∀ v', Rk pend (D ||| 2 ^ i) (OwS E kz v' (l + m) (cs ++ ns) :: r1) ∧ En (OwS E kz v' (l + m) (cs ++ ns) :: r1) (HTh P gl k t pend (D ||| 2 ^ i) (put e d v'))) :
    En aa (HTh P gl k (.ef d g i (.raw ⟨none, .call ⟨.builtin .append, #[x, y], #[st, st]⟩, ty, "", #[], none⟩) t) pend D e) := by
  obtain ⟨hu, inf, zv, hi, hzv, rfl, rfl, rfl⟩ := slI_spec hT
  refine t_raw (R := fun v' aa' => aa' = OwS E inf.size v' (l + m) (cs ++ ns) :: r1) hg ⟨⟨_, hx⟩, ⟨_, hy⟩, trivial⟩ (by simp) ?_ (by rintro v' _ rfl; exact mm v')
  intro w hs hG
  have hs1 := pk1.out hs
  obtain ⟨h1', h2', dd, uu, ⟨hlen, how⟩, hr⟩ := hs1
  have hex : ∀ rr ww, (Builtin.append_ #[st, st] ty #[v, .slice (some ⟨bx, ox, none⟩) m c]).run P w = .ok rr ww → (execOp (evD e) ⟨none, .call ⟨.builtin .append, #[x, y], #[st, st]⟩, ty, "", #[], none⟩).run P w = .ok (.value rr) ww := by
    intro rr ww hrun
    simp [execOp, resolve, evD, hx, hy, invoke, builtin, hrun]
  have hnews := hrd w hs
  have hcl : (cs ++ ns).length = (l + m) * inf.size := by rw [List.length_append, hlen, hnl, Nat.add_mul]
  have hm1 : m ≤ l + m := Nat.le_add_left _ _
  have hgrown : ∀ (old : Nat), old < l + m → ∃ sp : List Value, l + m ≤ grownCap w (l + m) old E ∧ (cs ++ ns ++ sp).length = grownCap w (l + m) old E * inf.size ∧ (Builtin.zeroCells zv.cells (grownCap w (l + m) old E - (l + m))).toList = sp := by
    intro old ho
    have hge : l + m ≤ grownCap w (l + m) old E := by simp [grownCap, Question.cut]
    refine ⟨_, hge, ?_, rfl⟩
    rw [List.length_append, hcl]
    have h5 : (Builtin.zeroCells zv.cells (grownCap w (l + m) old E - (l + m))).toList.length = (grownCap w (l + m) old E - (l + m)) * inf.size := by
      rw [Array.length_toList, size_zeroCells]
      congr 1
    rw [h5, ← Nat.add_mul]
    congr 1; omega
  have halloc : ∀ (sp : List Value) (cap : Nat), l + m ≤ cap → (cs ++ ns ++ sp).length = cap * inf.size →
      Sep (OwS E inf.size (.slice (some ⟨w.heap.size, 0, none⟩) (l + m) cap) (l + m) (cs ++ ns) :: r1) (hw (w.drew.alloc (.cells (cs ++ ns ++ sp).toArray E))) := by
    intro sp cap hc hsl
    have hold : Sep r1 (hw w.drew) := sep_mono hr fun b o hb => by
      show hw w b = some o
      rw [uu b]
      rcases dd b with h | h
      · rw [h, hb]; rfl
      · rw [hb] at h; cases h
    refine sep_new hold (hw_top (w := w.drew)) hw_alloc (fun k hk => hw_alloc_ne hk) ⟨hcl, .inr ⟨w.heap.size, cap, sp, rfl, hc, hsl, ?_⟩⟩
    exact if_pos rfl
  rcases how with ⟨rfl, rfl⟩ | ⟨b, cap, sp, rfl, hcap, hspl, hbb⟩
  · have hcs : cs = [] := by simpa using hlen
    subst hcs
    have hlaw := run_append_nil (P := P) w st ty E inf zv hu hi hzv ⟨bx, ox, none⟩ m c ns hnl hnews hm (by omega) (by simp at hb; omega)
    obtain ⟨sp, hge, hsl, hsp⟩ := hgrown 0 (by omega)
    have e2 : ns.toArray ++ Builtin.zeroCells zv.cells (grownCap w m 0 E - m) = ([] ++ ns ++ sp).toArray := by
      apply Array.ext'; rw [← hsp]; simp
    rw [e2] at hlaw
    refine ⟨_, _, _, .inl (hex _ _ hlaw), ⟨hG.1, hG.2⟩, ?_, rfl⟩
    have := halloc sp (grownCap w m 0 E) (by simpa using hge) (by simpa using hsl)
    simpa using this
  · have hbw : hw w b = some (.cells (cs ++ sp).toArray E (0, 0)) := by rw [uu b, hbb]; rfl
    by_cases hroom : l + m ≤ cap
    · have hfit : l * inf.size + ns.length ≤ (cs ++ sp).toArray.size := by
        have : (l + m) * inf.size ≤ cap * inf.size := Nat.mul_le_mul_right _ hroom
        rw [Nat.add_mul] at this
        simp only [List.size_toArray]
        rw [hspl, hnl]; exact this
      have hlaw := run_append_room (P := P) w st ty E inf hu hi b l cap (cs ++ sp).toArray hbw ⟨bx, ox, none⟩ m c ns hnl hnews (fun u hu => List.all_eq_true.1 h1 u hu) hroom hfit
      have e2 : ((cs ++ sp).toArray.toList.take (l * inf.size) ++ ns ++ (cs ++ sp).toArray.toList.drop (l * inf.size + ns.length)) = cs ++ ns ++ sp.drop ns.length := by
        rw [← hlen]
        simp [List.drop_append]
      rw [e2] at hlaw
      refine ⟨_, _, _, .inl (hex _ _ hlaw), ⟨hG.1, hG.2⟩, ?_, rfl⟩
      have hnb : h2' b = none := by
        rcases dd b with h | h
        · rw [hbb] at h; cases h
        · exact h
      refine ⟨fun k => if k = b then some (.cells (cs ++ ns ++ sp.drop ns.length).toArray E (0, 0)) else h1' k, h2', fun k => ?_, fun k => ?_, ⟨hcl, .inr ⟨b, cap, sp.drop ns.length, rfl, hroom, ?_, by simp⟩⟩, hr⟩
      · by_cases hk : k = b
        · subst hk; exact .inr hnb
        · simp only [if_neg hk]; exact dd k
      · by_cases hk : k = b
        · subst hk; rw [hw_setRow hbw]; simp
        · rw [hw_setRow_ne hk, uu k]; simp [hk]
      · rw [← hspl]
        simp only [List.length_append, List.length_drop]
        have : cs.length + ns.length ≤ cs.length + sp.length := by
          have h6 := hfit
          rw [← hlen] at h6
          simpa using h6
        omega
    · have hholds : ∀ j u, cs[j]? = some u → w.cell? ((⟨b, 0, none⟩ : Addr).add j) = some u := cells_at hbw (o := 0) (m := cs.length) (by simp)
      have hlaw := run_append_grow (P := P) w st ty E inf zv hu hi hzv ⟨b, 0, none⟩ l cap cs hlen hholds ⟨bx, ox, none⟩ m c ns hnl hnews (by omega) (by omega) (growslice_fits (by omega) hb)
      obtain ⟨sp2, hge, hsl, hsp⟩ := hgrown cap (by omega)
      have e2 : cs.toArray ++ ns.toArray ++ Builtin.zeroCells zv.cells (grownCap w (l + m) cap E - (l + m)) = (cs ++ ns ++ sp2).toArray := by
        apply Array.ext'; rw [← hsp]; simp
      rw [e2] at hlaw
      exact ⟨_, _, _, .inl (hex _ _ hlaw), ⟨hG.1, hG.2⟩, halloc sp2 _ hge hsl, rfl⟩


theorem flat_len {k : Nat} : ∀ {ys : List (List Value)}, (∀ x ∈ ys, x.length = k) → ys.flatten.length = ys.length * k
  | [], _ => by simp
  | x :: xs, h => by
    rw [List.flatten_cons, List.length_append, flat_len fun x hx => h x (by simp [hx]), h x (by simp), List.length_cons, Nat.add_mul]; omega
theorem run_append_no (w : World) (t ty E : TypeId) (i : TypeInfo) (ht : P.underlying t = some (.slice E)) (hi : P.info? E = some i) (base a : Option Addr) (l cap c : Nat) (hroom : l ≤ cap) :
    (Builtin.append_ #[t, t] ty #[.slice base l cap, .slice a 0 c]).run P w = .ok (.slice base l cap) w := by
  cases a with
  | none =>
    cases base with
    | none => simp [Builtin.append_, run_underlying ht, sizeOf, typeInfo, hi, Builtin.lenOf, hroom, Builtin.firstCells]
    | some b => simp [Builtin.append_, run_underlying ht, sizeOf, typeInfo, hi, Builtin.lenOf, hroom, Builtin.firstCells, storeCells]
  | some a =>
    cases base with
    | none => simp [Builtin.append_, run_underlying ht, sizeOf, typeInfo, hi, Builtin.lenOf, hroom, Builtin.firstCells, loadCells, loadCellsFrom]
    | some b => simp [Builtin.append_, run_underlying ht, sizeOf, typeInfo, hi, Builtin.lenOf, hroom, Builtin.firstCells, storeCells, loadCells, loadCellsFrom]

theorem t_bs0 {d : Option Nat} {g : Option (Nat × Bool)} {t : MT} {pend : Pn} {D i : Nat} {st ty E kz by_ : Nat} {z : List Value} (hT : slI P st = some (E, kz, by_, z)) (hg : gdv e g = some true)
    (mm : ∀ b, Rk pend (D ||| 2 ^ i) (OwS E kz (.slice (some ⟨b, 0, none⟩) 0 0) 0 [] :: aa) ∧ En (OwS E kz (.slice (some ⟨b, 0, none⟩) 0 0) 0 [] :: aa) (HTh P gl k t pend (D ||| 2 ^ i) (put e d (.slice (some ⟨b, 0, none⟩) 0 0)))) :
    En aa (HTh P gl k (.ef d g i (.raw ⟨none, .buildSlice st 0 #[], ty, "", #[], none⟩) t) pend D e) := by
  obtain ⟨hu, inf, zv, hin, hzv, rfl, rfl, rfl⟩ := slI_spec hT
  refine t_raw (R := fun v' aa' => ∃ b, v' = .slice (some ⟨b, 0, none⟩) 0 0 ∧ aa' = OwS E inf.size v' 0 [] :: aa) hg (by simp [Op.operands, known]) (by simp) ?_ (by rintro v' _ ⟨b, rfl, rfl⟩; exact mm b)
  intro w hs hG
  have hrun : (Instr.buildSlice st 0 #[]).run P w = .ok (.slice (some ⟨w.heap.size, 0, none⟩) 0 0) (w.alloc (.cells #[] E)) := by
    simp [Instr.buildSlice, run_underlying hu, sizeOf, typeInfo, hin, Instr.fill, newRow]
    congr 2
    apply Array.ext'
    simp
  refine ⟨_, w.alloc (.cells #[] E), _, .inl ?_, ⟨hG.1, hG.2⟩, ?_, w.heap.size, rfl, rfl⟩
  · simp only [execOp, Sem.run_bind]
    simp [hrun]
  · exact sep_new hs hw_top hw_alloc (fun k hk => hw_alloc_ne hk) ⟨by simp, .inr ⟨w.heap.size, 0, [], rfl, Nat.le_refl _, by simp, if_pos rfl⟩⟩

theorem t_apR {d : Option Nat} {g : Option (Nat × Bool)} {t : MT} {pend : Pn} {D i : Nat} {x y : Operand} {st ty E kz by_ : Nat} {z : List Value} {v yv : Value} {l : Nat} {cs : List Value} {xs : List (List Value)} {R : HP} {r1 r2 : List HP} (hT : slI P st = some (E, kz, by_, z))
    (hg : gdv e g = some true) (hx : ev e x = some v) (hy : ev e y = some yv) (hS : RdS R kz yv xs) (pk1 : Pk aa (OwS E kz v l cs) r1) (pk2 : Pk r1 R r2)
    (hz : z.length = kz) (hk0 : 0 < kz) (h1 : xs.flatten.all Value.oneCell' = true) (hb : (l + xs.length) * by_ ≤ 140737488355328) (hl : l + xs.length ≤ 4611686018427387904)
    (mm : ∀ v', Rk pend (D ||| 2 ^ i) (OwS E kz v' (l + xs.length) (cs ++ xs.flatten) :: r1) ∧ En (OwS E kz v' (l + xs.length) (cs ++ xs.flatten) :: r1) (HTh P gl k t pend (D ||| 2 ^ i) (put e d v'))) :
    En aa (HTh P gl k (.ef d g i (.raw ⟨none, .call ⟨.builtin .append, #[x, y], #[st, st]⟩, ty, "", #[], none⟩) t) pend D e) := by
  cases xs with
  | nil =>
    obtain ⟨a, c, rfl⟩ := hS.len
    simp only [List.length_nil, List.flatten_nil, List.append_nil, Nat.add_zero] at mm hy
    obtain ⟨hu, inf, zv, hi, hzv, rfl, rfl, rfl⟩ := slI_spec hT
    refine t_raw (R := fun v' aa' => v' = v ∧ aa' = OwS E inf.size v l cs :: r1) hg ⟨⟨_, hx⟩, ⟨_, hy⟩, trivial⟩ (by simp) ?_ (by rintro v' _ ⟨rfl, rfl⟩; exact mm v')
    intro w hs hG
    have hs1 := pk1.out hs
    have hv : ∃ base cap, v = .slice base l cap ∧ l ≤ cap := by
      obtain ⟨h1', h2', dd, uu, ⟨hlen, how⟩, hr⟩ := hs1
      rcases how with ⟨rfl, rfl⟩ | ⟨b, cap, sp, rfl, hcap, _⟩
      · exact ⟨_, _, rfl, Nat.le_refl _⟩
      · exact ⟨_, _, rfl, hcap⟩
    obtain ⟨base, cap, rfl, hcap⟩ := hv
    have hrun := run_append_no (P := P) w st ty E inf hu hi base a l cap c hcap
    refine ⟨_, w, _, .inl ?_, hG, hs1, rfl, rfl⟩
    simp [execOp, resolve, evD, hx, hy, invoke, builtin, hrun]
  | cons x0 xs0 =>
    obtain ⟨a, c, rfl⟩ := hS.len
    obtain ⟨b, o, rfl, _⟩ := hS.ptr (by simp)
    refine t_apG (ns := (x0 :: xs0).flatten) hT hg hx hy pk1 ?_ hz hk0 (by simp) ?_ h1 hb hl mm
    · intro w hs j u hj
      obtain ⟨_, hcs⟩ := hS
      rcases hcs with ⟨h, _⟩ | ⟨b', o', c', he, hR⟩
      · cases h
      · simp only [Value.slice.injEq, Option.some.injEq, Addr.mk.injEq] at he
        obtain ⟨⟨rfl, rfl, _⟩, _, rfl⟩ := he
        obtain ⟨h', hs', hext⟩ := sep_drop (pk1.out hs)
        obtain ⟨h1', h2', dd, uu, hRR, _⟩ := pk2.out hs'
        obtain ⟨arr, T, fz, h3, h4⟩ := hR _ hRR
        have h5 : hw w b = some (.cells arr T fz) := hext _ _ (by rw [uu b, h3]; rfl)
        rw [add_none, cell_hw h5]
        rw [← h4, List.getElem?_take] at hj
        split at hj
        · rw [List.getElem?_drop] at hj; exact hj
        · cases hj
    · exact flat_len hS.1

theorem rds_ows {E kz : Nat} {v : Value} {xs : List (List Value)} (hk : ∀ x ∈ xs, x.length = kz) (h0 : 0 < xs.length) {h : PH} (hs : OwS E kz v xs.length xs.flatten h) : RdS (OwS E kz v xs.length xs.flatten) kz v xs := by
  obtain ⟨hl, ⟨_, hn⟩ | ⟨b, cap, sp, rfl, hc, hsl, hb⟩⟩ := hs
  · omega
  · refine ⟨hk, .inr ⟨b, 0, cap, rfl, fun g hg => ?_⟩⟩
    obtain ⟨hl', ⟨hv, _⟩ | ⟨b', cap', sp', he, hc', hsl', hb'⟩⟩ := hg
    · cases hv
    · simp only [Value.slice.injEq, Option.some.injEq, Addr.mk.injEq] at he
      obtain ⟨⟨rfl, _⟩, _, rfl⟩ := he
      refine ⟨_, E, (0, 0), hb', ?_⟩
      show (List.drop 0 ((xs.flatten ++ sp').toArray).toList).take _ = _
      rw [List.drop_zero, List.toList_toArray, ← hl, List.take_left']
      rfl
theorem en_rds {E kz m : Nat} {v : Value} {xs : List (List Value)} (hk : ∀ x ∈ xs, x.length = kz) (h0 : 0 < xs.length) (hm : m = xs.length) (pk : Pk aa (OwS E kz v m xs.flatten) r) (k : RdS (OwS E kz v m xs.flatten) kz v xs → En aa J) : En aa J := by
  subst hm
  intro h hs
  obtain ⟨h1, h2, d, u, hx, hr⟩ := pk.out hs
  exact k (rds_ows hk h0 hx) h hs
theorem en_one {ys : List HP} (pk : Pk aa (Sep ys) r) (m : En (ys ++ r) J) : En aa J :=
  en_open (α := Unit) (φ := fun _ => True) (ys := fun _ => ys) (fun _ hh => ⟨(), trivial, hh⟩) pk fun _ _ => m
theorem en_toone {ys : List HP} (sx : Sx aa ys r) (m : En (Sep ys :: r) J) : En aa J := en_fold (fun _ h => h) sx m
end
end Go.Dv

/- What an argument's reading gives; a law's row from its contract. -/
namespace Go.Dv
open Go Go.ChangeShapes Go.Deep

/-! ### shapes of plain data -/
inductive Sh where
  | int (k : IntKind)
  | str
  | bool
  | sl (n : Nat) (e : Sh)
  | st (es : List Sh)
def shL (f : TypeId → Option Sh) : List Field → Option (List Sh)
  | [] => some []
  | x :: xs => match f x.type, shL f xs with
    | some s, some r => some (s :: r)
    | _, _ => none
def shOf (P : Program) : Nat → TypeId → Option Sh
  | 0, _ => none
  | d + 1, t => match P.underlying t with
    | some (.int k) => some (.int k)
    | some .string => some .str
    | some .bool => some .bool
    | some (.slice e) => if 0 < P.cellsOf e then (shOf P d e).map (.sl (P.cellsOf e)) else none
    | some (.struct fs) => (shL (shOf P d) fs.toList).map .st
    | _ => none
mutual
def RdSh (R : HP) : Sh → List Value → Prop
  | .int k, cs => ∃ n, cs = [.int k n] ∧ (Lit.int k n).wf = true
  | .str, cs => ∃ s : ByteArray, cs = [.string s] ∧ s.size ≤ maxLen
  | .bool, cs => ∃ b, cs = [.bool b]
  | .sl n e, cs => ∃ v xs, cs = [v] ∧ RdS R n v xs ∧ xs.length ≤ maxLen ∧ ∀ x ∈ xs, RdSh R e x
  | .st es, cs => RdShs R es cs
def RdShs (R : HP) : List Sh → List Value → Prop
  | [], cs => cs = []
  | e :: es, cs => ∃ c1 c2, cs = c1 ++ c2 ∧ RdSh R e c1 ∧ RdShs R es c2
end
def Old (w : World) : HP := fun h => ∀ b o, hw w b = some o → h b = some o

section
variable {H : Type} {enc : TypeId × Value → H} {P : Program} {w : World} {sp : Nat → Bool} {held : Bool}

theorem cell_block {a : Addr} {v : Value} (h : w.cell? a = some v) : a.spot = none ∧ ∃ c T fz, hw w a.block = some (.cells c T fz) ∧ c[a.off]? = some v := by
  unfold World.cell? at h
  split at h
  · rename_i c T fz hb
    split at h
    · cases h
    · rename_i hs
      exact ⟨by simpa using hs, c, T, fz, hb, h⟩
  · cases h

theorem list_choose {α β : Type} {f : β → α} {p : β → Prop} : ∀ {xs : List α}, (∀ x ∈ xs, ∃ y, x = f y ∧ p y) → ∃ ys : List β, xs = ys.map f ∧ ∀ y ∈ ys, p y
  | [], _ => ⟨[], rfl, by simp⟩
  | x :: xs, h => by
    obtain ⟨y, rfl, hy⟩ := h x (by simp)
    obtain ⟨ys, rfl, hys⟩ := list_choose (xs := xs) fun z hz => h z (by simp [hz])
    exact ⟨y :: ys, rfl, by simpa using ⟨hy, hys⟩⟩

theorem rds_old {a : Addr} {len cap k : Nat} {X : Nat → List Value} (hk : 0 < k) (hx : ∀ i, i < len → w.cells? 0 (a.add (i * k)) k = some (X i)) :
    RdS (Old w) k (.slice (some a) len cap) ((List.range len).map X) := by
  have hX : ∀ i, i < len → (X i).length = k ∧ ∀ j, j < k → w.cell? (a.add (i * k + j)) = (X i)[j]? := by
    intro i hi
    obtain ⟨_, h1, h2⟩ := World.cells?_some (hx i hi)
    exact ⟨h1, fun j hj => by rw [← add_add]; exact h2 j hj⟩
  refine ⟨?_, ?_⟩
  · intro x hx
    obtain ⟨i, hi, rfl⟩ := List.mem_map.1 hx
    exact (hX i (List.mem_range.1 hi)).1
  · rcases Nat.eq_zero_or_pos len with rfl | hl
    · exact .inl ⟨rfl, _, _, rfl⟩
    · obtain ⟨h1, h2⟩ := hX 0 hl
      have h3 := h2 0 hk
      have h4 : 0 < (X 0).length := by omega
      rw [List.getElem?_eq_getElem h4] at h3
      have e0 : a.add (0 * k + 0) = a := by simp [Addr.add]
      rw [e0] at h3
      obtain ⟨hs, c, T, fz, hb, _⟩ := cell_block h3
      obtain ⟨ab, ao, asp⟩ := a
      simp only at hs hb
      subst hs
      refine .inr ⟨ab, ao, cap, by simp, fun h hh => ⟨c, T, fz, hh _ _ hb, ?_⟩⟩
      have hcell : ∀ i, i < len → ∀ j, j < k → c.toList[ao + (i * k + j)]? = (X i)[j]? := by
        intro i hi j hj
        have := (hX i hi).2 j hj
        rw [add_none, cell_hw hb] at this
        simpa using this
      have hall : ∀ x ∈ (List.range len).map X, x.length = k := by
        intro x hx
        obtain ⟨i, hi, rfl⟩ := List.mem_map.1 hx
        exact (hX i (List.mem_range.1 hi)).1
      have hfl : ((List.range len).map X).flatten.length = len * k := by rw [flat_len hall]; simp
      rw [List.length_map, List.length_range]
      apply List.ext_getElem?
      intro t
      rw [List.getElem?_take]
      by_cases ht : t < len * k
      · rw [if_pos ht, List.getElem?_drop]
        have hq : t / k < len := by rw [Nat.div_lt_iff_lt_mul hk]; exact ht
        have hm : t % k < k := Nat.mod_lt _ hk
        have hdm : t / k * k + t % k = t := by rw [Nat.mul_comm]; exact Nat.div_add_mod t k
        have h5 := hcell (t / k) hq (t % k) hm
        rw [hdm] at h5
        rw [h5]
        have hi : ((List.range len).map X)[t / k]? = some (X (t / k)) := by simp [hq]
        obtain ⟨h6, h7⟩ := flat_at hall hi
        rw [← h6, List.getElem?_take, if_pos hm, List.getElem?_drop, hdm]
      · rw [if_neg ht, List.getElem?_eq_none (by omega)]

theorem rdsh_of (hl : laidOutB P = true) : ∀ (d : Nat) (t : TypeId) (s : Sh) (fuel : Nat) (cs : List Value) (x : DataW H × List MemPlace), t < P.types.size → shOf P d t = some s →
    DataW.trod enc P w 0 sp held fuel t cs = some x → RdSh (Old w) s cs := by
  intro d
  induction d with
  | zero => intro t s fuel cs x _ h; cases h
  | succ d ih =>
    intro t s fuel cs x hts h hx
    simp only [shOf] at h
    split at h
    · rename_i k hu
      simp only [Option.some.injEq] at h; subst h
      obtain ⟨n, h1, _, h2⟩ := DataW.trod_int hu hx
      exact ⟨n, h1, h2⟩
    · rename_i hu
      simp only [Option.some.injEq] at h; subst h
      obtain ⟨n, h1, _, h2⟩ := DataW.trod_string hu hx
      exact ⟨n, h1, h2⟩
    · rename_i hu
      simp only [Option.some.injEq] at h; subst h
      obtain ⟨n, h1, _⟩ := DataW.trod_bool hu hx
      exact ⟨n, h1⟩
    · rename_i e hu
      split at h
      · rename_i hpos
        simp only [Option.map_eq_some_iff] at h
        obtain ⟨s', hs', rfl⟩ := h
        have hte : e < P.types.size := kid_slice hl hts hu
        rcases open_slice hu hx with ⟨rfl, _⟩ | ⟨a, len, cap, m, n, D, Pl, rfl, _, hlc, hcm, hm, _, hel⟩
        · exact ⟨_, [], rfl, ⟨by simp, .inl ⟨rfl, _, _, rfl⟩⟩, by simp, by simp⟩
        · have hlm : len ≤ m := by rw [hm]; split <;> omega
          obtain ⟨X, hX⟩ := choose_lt (n := len) (α := List Value) (p := fun i c => w.cells? 0 (a.add (i * P.cellsOf e)) (P.cellsOf e) = some c ∧ DataW.trod enc P w 0 sp held n e c = some (D i, Pl i))
            (fun i hi => hel i (by omega))
          refine ⟨_, (List.range len).map X, rfl, rds_old hpos fun i hi => (hX i hi).1, by simp; omega, ?_⟩
          intro x hx
          obtain ⟨i, hi, rfl⟩ := List.mem_map.1 hx
          exact ih e s' n (X i) _ hte hs' (hX i (List.mem_range.1 hi)).2
      · cases h
    · rename_i fs hu
      simp only [Option.map_eq_some_iff] at h
      obtain ⟨ss, hss, rfl⟩ := h
      obtain ⟨xs, n, _, _, hlen, hxl, hat⟩ := DataW.trod_struct hu hx
      obtain ⟨hk1, hk2, hk3⟩ := kid_struct hl hts hu
      show RdShs (Old w) ss cs
      have key : ∀ (gs : List Field) (ss : List Sh) (j : Nat), fs.toList.drop j = gs → shL (shOf P d) gs = some ss → ((cs.drop ((fs.toList.take j).map fun f => P.cellsOf f.type).sum).length = (gs.map fun f => P.cellsOf f.type).sum) →
          RdShs (Old w) ss (cs.drop ((fs.toList.take j).map fun f => P.cellsOf f.type).sum) := by
        intro gs
        induction gs with
        | nil =>
          intro ss j _ h1 h2
          simp only [shL, Option.some.injEq] at h1; subst h1
          exact List.length_eq_zero_iff.1 (by simpa using h2)
        | cons f gs ihg =>
          intro ss j hj h1 h2
          simp only [shL] at h1
          split at h1
          · rename_i s r hs hr
            simp only [Option.some.injEq] at h1; subst h1
            have hjl : j < fs.toList.length := by
              rcases Nat.lt_or_ge j fs.toList.length with h | h
              · exact h
              · rw [List.drop_eq_nil_of_le h] at hj; cases hj
            have hfj : fs.toList[j]? = some f := by
              have := congrArg (·[0]?) hj
              simpa using this
            have hfj' : fs[j]? = some f := by simpa using hfj
            have hfm : f ∈ fs.toList := List.mem_of_getElem? hfj
            have hoff := hk3 j f hfj
            have hx1 : j < xs.length := by rw [hxl]; simpa using hjl
            have htr := hat j f hfj'
            rw [List.getElem?_eq_getElem hx1, hoff] at htr
            have hr1 := ih f.type s n _ _ (hk1 f hfm) hs htr
            have e1 : ((fs.toList.take (j + 1)).map fun f => P.cellsOf f.type).sum = ((fs.toList.take j).map fun f => P.cellsOf f.type).sum + P.cellsOf f.type := by
              rw [List.take_succ_eq_append_getElem hjl]
              have : fs.toList[j] = f := by rw [List.getElem?_eq_getElem hjl] at hfj; exact Option.some.inj hfj
              rw [this]
              simp
            have hj2 : fs.toList.drop (j + 1) = gs := by
              rw [← List.drop_drop, hj]; rfl
            have h2' : (cs.drop ((fs.toList.take (j + 1)).map fun f => P.cellsOf f.type).sum).length = (gs.map fun f => P.cellsOf f.type).sum := by
              rw [e1, ← List.drop_drop, List.length_drop, h2]
              simp
            have hr2 := ihg r (j + 1) hj2 hr h2'
            rw [e1, ← List.drop_drop] at hr2
            exact ⟨_, _, (List.take_append_drop (P.cellsOf f.type) _).symm, hr1, hr2⟩
          · cases h1
      have := key fs.toList ss 0 rfl hss (by simpa [hlen] using hk2)
      simpa using this
    · cases h
end

/-! ### the row -/
def slPos (P : Program) : Bool := (List.range P.types.size).all fun t => match P.underlying t with
  | some (.slice e) => decide (0 < P.cellsOf e)
  | _ => true

section
variable {H : Type} {enc : TypeId × Value → H} {P : Program} {W W' : World}

theorem trodAll_stays (hl : laidOutB P = true) (hm : mapsRowed P = true) (hz : slPos P = true) (hold : ∀ b, b < W.heap.size → W'.heap[b]? = W.heap[b]?) {sp' : Nat → Bool} :
    ∀ {ts : List TypeId} {vs : List Value} {ds : List (DataW H)} {ps : List MemPlace}, (∀ t ∈ ts, t < P.types.size) → DataW.TrodAll enc P W 0 (fun _ => true) true ts vs ds ps → (∀ p ∈ ps, p.block < W.heap.size) → (∀ p ∈ ps, sp' p.block = true) →
      DataW.TrodAll enc P W' 0 sp' true ts vs ds ps
  | [], vs, ds, ps, _, h, _, _ => by
    obtain ⟨rfl, rfl, rfl⟩ := trodAll_nil h
    rfl
  | t :: ts, vs, ds, ps, ht, h, hb, hs => by
    obtain ⟨v, vs1, d, ds1, a, b, rfl, rfl, rfl, ⟨fuel, h1⟩, h2⟩ := trodAll_cons h
    refine ⟨a, b, ⟨fuel, ?_⟩, trodAll_stays hl hm hz hold (fun t h => ht t (by simp [h])) h2 (fun p hp => hb p (by simp [hp])) (fun p hp => hs p (by simp [hp])), rfl⟩
    refine DataW.trod_stays (K := kids_rows hl hm) (T := (· < P.types.size)) ?_ (fun h => by cases h) (ht t (by simp)) h1 ?_ fun p hp => hs p (by simp [hp])
    · intro t e h3 h4
      have := List.all_eq_true.1 hz t (List.mem_range.2 h3)
      rw [h4] at this
      simpa using this
    · intro p hp
      have hlt := hb p (List.mem_append_left _ hp)
      have := hold p.block hlt
      cases p with
      | cell b off =>
        show W'.cell? _ = W.cell? _
        unfold World.cell?
        rw [show W'.heap[(⟨b, off, none⟩ : Addr).block]? = W.heap[(⟨b, off, none⟩ : Addr).block]? from this]
      | map b => exact this

theorem law_post {f : Func} {s : ChangeSpec} {args : Array Value} {ds gs : List (DataW H)} {before : List MemPlace} {tb : TypeId} (hl : laidOutB P = true) (hm : mapsRowed P = true) (hz : slPos P = true)
    (hW : DataW.Whole enc P f.params.toList s.vars false W args.toList ds gs before) (ht : ∀ t ∈ f.params.toList, t < P.types.size) (hold : ∀ b, b < W.heap.size → W'.heap[b]? = W.heap[b]?) (hos : W'.os = W.os) (hout : W'.output = W.output)
    (hv : s.vars = []) (hfn : s.fn H ds = { results := [.lit (.bool true)], args := ds }) (hrt : f.resultTypes = #[tb]) (hb : P.underlying tb = some .bool) :
    s.post enc P f false true false false W args (.bool true) W' := by
  have hlt := hW.lt
  have hW' := hW
  obtain ⟨p, q, hA, hV, rfl, hfz, _⟩ := hW
  rw [hv] at hV
  obtain ⟨rfl, rfl⟩ := trodVars_none hV
  simp only [List.append_nil] at hW' hlt hfz ⊢
  refine ⟨ds, [], p, [], p, [], hW', ?_, ?_, ?_, ?_, fun h => by cases h⟩
  · rw [List.append_nil, hfn, hrt]
    refine ⟨[], [], ⟨1, ?_⟩, rfl, rfl⟩
    show DataW.trod enc P W' _ _ _ 1 tb [.bool true] = _
    simp only [DataW.trod, hb]
  · rw [List.append_nil, hfn]
    exact trodAll_stays hl hm hz hold ht hA hlt fun p hp => by simpa using hlt p hp
  · rw [List.append_nil, hfn, hv]
    rfl
  · refine ⟨hos, hout, fun i hi => ?_⟩
    rw [hold i hi]
    cases h : W.heap[i]? with
    | none => simp
    | some o => cases o <;> simp

/-- A law's contract from the plain one. -/
theorem law_calls {f : FuncId} {fn : Func} {s : ChangeSpec} {args : Array Value} {ds gs : List (DataW H)} {before : List MemPlace} {tb : TypeId} (hl : laidOutB P = true) (hm : mapsRowed P = true) (hz : slPos P = true)
    (hW : DataW.Whole enc P fn.params.toList s.vars false W args.toList ds gs before) (ht : ∀ t ∈ fn.params.toList, t < P.types.size)
    (hv : s.vars = []) (hfn : s.fn H ds = { results := [.lit (.bool true)], args := ds }) (hrt : fn.resultTypes = #[tb]) (hb : P.underlying tb = some .bool)
    (S : Fsp P f args.toList [Old W] fun u aa' => u = .bool true ∧ aa' = [Old W]) :
    Calls P f args W fun e W' => ∃ v, e = .returned v ∧ s.post enc P fn false true false false W args v W' := by
  have h0 : Sep ([Old W] ++ [fun _ => True]) (hw W) := by
    refine ⟨hw W, fun _ => none, fun _ => .inr rfl, fun b => (or_none _).symm, fun _ _ h => h, ?_⟩
    exact ⟨fun _ => none, fun _ => none, fun _ => .inl rfl, fun b => rfl, trivial, trivial⟩
  have := S (W.os, W.output) (fun _ => True) W ⟨rfl, rfl⟩ h0
  unfold callsR at this
  rw [show args.toList.toArray = args from rfl] at this
  refine Calls.mono this ?_
  rintro x w' ⟨v, rfl, hG, aa', ⟨rfl, rfl⟩, hs⟩
  refine ⟨_, rfl, law_post hl hm hz hW ht ?_ hG.1 hG.2 hv hfn hrt hb⟩
  intro b hb'
  obtain ⟨h1, h2, d, u, ho, _⟩ := hs
  have e1 : W.heap[b]? = some W.heap[b] := Array.getElem?_eq_getElem hb'
  have e2 := ho b _ e1
  have e3 : hw w' b = some W.heap[b] := by rw [u b, e2]; rfl
  rw [e1]; exact e3
end
section
variable {P : Program} {gl : Gl} {n : Nat} {aa r : List HP} {e : Env} {K : Kx}
theorem m_emeet {i : Nat} {α : Type} {E : α → Env} {A : α → List HP} {φ : α → Prop} (hk : K (.exit i) = Meet E A φ) (z : α) (h1 : φ z) (L : List Nat) (h2 : selO e L = some (E z)) (sx : Sx aa (A z) r) : En aa (HM P n gl (.exit i) K e) :=
  m_exit fun h hs => by rw [hk]; exact ⟨z, h1, selO_get h2, sep_left (sx.out hs)⟩
theorem m_cutn {x y : MC} {K2 : Kx} {α : Type} (E : α → Env) (A : α → List HP) (φ : α → Prop) (hk : K .normal = HM P n gl y K2) (m1 : En aa (HM P n gl x (seqK (Meet E A φ) K) e)) (m2 : ∀ z, φ z → En (A z) (HM P n gl y K2 (E z))) : En aa (HM P n gl x K e) := by
  intro h hs
  refine hm_mono ?_ (m1 h hs)
  intro ex e' h' hk'
  cases ex with
  | normal => obtain ⟨z, h1, h2, h3⟩ := hk'; rw [hk]; exact hm_less h2 (m2 z h1 h' h3)
  | _ => exact hk'
def seqB (i : Nat) (k : Env → PH → Prop) (K : Kx) : Kx
  | .normal => k
  | .exit j => if j = i then k else K (.exit j)
  | x => K x
theorem m_cutb {x y : MC} {i : Nat} {K2 : Kx} {α : Type} (E : α → Env) (A : α → List HP) (φ : α → Prop) (hk : K .normal = HM P n gl y K2) (hi : K (.exit i) = HM P n gl y K2) (m1 : En aa (HM P n gl x (seqB i (Meet E A φ) K) e)) (m2 : ∀ z, φ z → En (A z) (HM P n gl y K2 (E z))) : En aa (HM P n gl x K e) := by
  intro h hs
  refine hm_mono ?_ (m1 h hs)
  intro ex e' h' hk'
  cases ex with
  | normal => obtain ⟨z, h1, h2, h3⟩ := hk'; rw [hk]; exact hm_less h2 (m2 z h1 h' h3)
  | exit j =>
    by_cases hj : j = i
    · subst hj
      simp only [seqB, if_true] at hk'
      obtain ⟨z, h1, h2, h3⟩ := hk'; rw [hi]; exact hm_less h2 (m2 z h1 h' h3)
    · simp only [seqB, if_neg hj] at hk'
      exact hk'
  | _ => exact hk'
end
end Go.Dv

/- Owned slices opened; parts of rows that are read. -/
namespace Go.Dv
open Go

section
variable {P : Program} {gl : Gl} {n : Nat} {aa r : List HP} {J : PH → Prop} {e : Env} {K : Kx} {k : Env → PH → Prop}

theorem en_owo {E kz n : Nat} {v : Value} {cs : List Value} (h0 : 0 < n) (pk : Pk aa (OwS E kz v n cs) r)
    (m : ∀ b cap sp, v = .slice (some ⟨b, 0, none⟩) n cap → n ≤ cap → (cs ++ sp).length = cap * kz → cs.length = n * kz → En (Cl b E (cs ++ sp) :: r) J) : En aa J := by
  intro h hs
  obtain ⟨h1, h2, d, u, ⟨hl, hx⟩, hr⟩ := pk.out hs
  rcases hx with ⟨_, rfl⟩ | ⟨b, cap, sp, rfl, hc, hsl, hb⟩
  · omega
  · exact m b cap sp rfl hc hsl hl h ⟨h1, h2, d, u, hb, hr⟩
theorem en_owf {E kz n b cap : Nat} {v : Value} {cs sp : List Value} (hv : v = .slice (some ⟨b, 0, none⟩) n cap) (hc : n ≤ cap) (hl : (cs ++ sp).length = cap * kz) (hn : cs.length = n * kz) (pk : Pk aa (Cl b E (cs ++ sp)) r)
    (m : En (OwS E kz v n cs :: r) J) : En aa J := by
  intro h hs
  obtain ⟨h1, h2, d, u, hx, hr⟩ := pk.out hs
  exact m h ⟨h1, h2, d, u, ⟨hn, .inr ⟨b, cap, sp, hv, hc, hl, hx⟩⟩, hr⟩
theorem splice_app {cs sp us : List Value} {f : Nat} (h : f + us.length ≤ cs.length) : splice (cs ++ sp) f us = splice cs f us ++ sp := by
  unfold splice
  rw [List.take_append_of_le_length (by omega), List.drop_append_of_le_length (by omega)]
  simp
theorem splice_len {cs us : List Value} {f : Nat} (h : f + us.length ≤ cs.length) : (splice cs f us).length = cs.length := by
  simp only [splice, List.length_append, List.length_take, List.length_drop]; omega
theorem flat_take {k : Nat} : ∀ {xs : List (List Value)} (i : Nat), (∀ x ∈ xs, x.length = k) → (xs.take i).flatten = xs.flatten.take (i * k)
  | [], i, _ => by simp
  | x :: xs, 0, _ => by simp
  | x :: xs, i + 1, h => by
    have hx := h x (by simp)
    have e : (i + 1) * k = x.length + i * k := by rw [hx, Nat.add_mul]; omega
    rw [List.take_succ_cons, List.flatten_cons, List.flatten_cons, flat_take i fun y hy => h y (by simp [hy]), e, List.take_append, Nat.add_sub_cancel_left, List.take_of_length_le (Nat.le_add_right x.length _)]
theorem flat_drop {k : Nat} : ∀ {xs : List (List Value)} (i : Nat), (∀ x ∈ xs, x.length = k) → (xs.drop i).flatten = xs.flatten.drop (i * k)
  | [], i, _ => by simp
  | x :: xs, 0, _ => by simp
  | x :: xs, i + 1, h => by
    have hx := h x (by simp)
    have e : (i + 1) * k = x.length + i * k := by rw [hx, Nat.add_mul]; omega
    rw [List.drop_succ_cons, List.flatten_cons, flat_drop i fun y hy => h y (by simp [hy]), e, List.drop_append, Nat.add_sub_cancel_left, List.drop_eq_nil_of_le (Nat.le_add_right x.length _), List.nil_append]
/-- one element of a flat row set -/
theorem flat_set {k i : Nat} {xs : List (List Value)} {y : List Value} (h : ∀ x ∈ xs, x.length = k) (hi : i < xs.length) (hy : y.length = k) : splice xs.flatten (i * k) y = (xs.set i y).flatten := by
  have e : xs.set i y = xs.take i ++ y :: xs.drop (i + 1) := List.set_eq_take_append_cons_drop .. |>.trans (by rw [if_pos hi])
  rw [e, splice, List.flatten_append, List.flatten_cons, flat_take i h, flat_drop (i + 1) h, hy, Nat.add_mul, Nat.one_mul, List.append_assoc]

theorem rds_hi {R : HP} {k len cap i : Nat} {a : Option Addr} {xs : List (List Value)} (h : RdS R k (.slice a len cap) xs) (hi : i ≤ xs.length) : RdS R k (.slice (if (cap : Int) = 0 then a else a.map (·.add (0 * k))) i cap) (xs.take i) := by
  obtain ⟨hk, h⟩ := h
  refine ⟨fun x hx => hk x (List.mem_of_mem_take hx), ?_⟩
  have ea : (if (cap : Int) = 0 then a else a.map (·.add (0 * k))) = a := by
    split
    · rfl
    · cases a <;> simp [Addr.add]
  rw [ea]
  rcases Nat.eq_zero_or_pos i with rfl | hp
  · exact .inl ⟨by simp, _, _, rfl⟩
  · rcases h with ⟨rfl, _⟩ | ⟨b, o, c, he, hR⟩
    · simp at hi; omega
    · simp only [Value.slice.injEq] at he
      obtain ⟨rfl, rfl, rfl⟩ := he
      have hl : (xs.take i).length = i := by simp; omega
      refine .inr ⟨b, o, cap, by rw [hl], fun g hg => ?_⟩
      obtain ⟨arr, T, fz, h1, h2⟩ := hR g hg
      refine ⟨arr, T, fz, h1, ?_⟩
      rw [flat_take i hk, ← h2, List.take_take, hl]
      congr 1
      exact (Nat.min_eq_left (Nat.mul_le_mul_right _ hi)).symm
theorem rds_lo {R : HP} {k len cap i : Nat} {a : Option Addr} {xs : List (List Value)} (h : RdS R k (.slice a len cap) xs) (hi : i ≤ xs.length) (hc : xs.length ≤ cap) :
    RdS R k (.slice (if (cap : Int) = i then a else a.map (·.add (i * k))) (len - i) (cap - i)) (xs.drop i) := by
  have hlen := RdS.len h
  obtain ⟨hk, h⟩ := h
  obtain ⟨a', c', he'⟩ := hlen
  simp only [Value.slice.injEq] at he'
  obtain ⟨_, rfl, _⟩ := he'
  refine ⟨fun x hx => hk x (List.mem_of_mem_drop hx), ?_⟩
  rcases Nat.lt_or_ge i xs.length with hlt | hge
  · rcases h with ⟨rfl, _⟩ | ⟨b, o, c, he, hR⟩
    · simp at hlt
    · simp only [Value.slice.injEq] at he
      obtain ⟨rfl, _, rfl⟩ := he
      rw [if_neg (by omega)]
      have ea : (some (⟨b, o, none⟩ : Addr)).map (·.add (i * k)) = some ⟨b, o + i * k, none⟩ := by
        simp only [Option.map_some, Addr.add]
        split
        · rename_i h0; rw [h0]; rfl
        · rfl
      rw [ea]
      refine .inr ⟨b, o + i * k, cap - i, by rw [List.length_drop], fun g hg => ?_⟩
      obtain ⟨arr, T, fz, h1, h2⟩ := hR g hg
      refine ⟨arr, T, fz, h1, ?_⟩
      rw [flat_drop i hk, ← h2, List.drop_take, List.drop_drop, List.length_drop, Nat.sub_mul]
  · refine .inl ⟨List.drop_eq_nil_of_le hge, ?_⟩
    rw [show xs.length - i = 0 from by omega]
    exact ⟨_, _, rfl⟩

theorem t_slhi {d sz : Nat} {g : Option (Nat × Bool)} {x y : Operand} {t : MT} {pend : Pn} {D len c : Nat} {a : Option Addr} {q : IntKind} (i : Nat) (hg : gdv e g = some true)
    (hx : ev e x = some (.slice a len c)) (hy : ev e y = some (.int q (i : Int))) (hb : i ≤ c) (m : En aa (HTh P gl k t pend D ((d, .slice (if (c : Int) = 0 then a else a.map (·.add (0 * sz))) i c) :: e))) :
    En aa (HTh P gl k (.rd (some d) g none (.slc sz x none (some y)) t) pend D e) := by
  refine t_c hg (fun h => ?_) m
  simp only [RV, rv, hx, hy, bnd]
  rw [if_pos ⟨by simp, by simp, by omega⟩]
  simp
theorem t_sllo {d sz : Nat} {g : Option (Nat × Bool)} {x y : Operand} {t : MT} {pend : Pn} {D len c : Nat} {a : Option Addr} {q : IntKind} (i : Nat) (hg : gdv e g = some true)
    (hx : ev e x = some (.slice a len c)) (hy : ev e y = some (.int q (i : Int))) (hb : i ≤ len) (hc : len ≤ c) (m : En aa (HTh P gl k t pend D ((d, .slice (if (c : Int) = i then a else a.map (·.add (i * sz))) (len - i) (c - i)) :: e))) :
    En aa (HTh P gl k (.rd (some d) g none (.slc sz x (some y) none) t) pend D e) := by
  refine t_c hg (fun h => ?_) m
  simp only [RV, rv, hx, hy, bnd]
  rw [if_pos ⟨by omega, by omega, by omega⟩]
  simp
theorem at_part {m o f : Nat} {l x : List Value} {c : Option Nat} {v : Value} (h : atCells (some m) l o = some (.agg x.toArray)) (hv : atCells c x f = some v) : atCells c l (o + f) = some v := by
  simp only [atCells] at h
  split at h
  · rename_i hle
    simp only [Option.some.injEq, Value.agg.injEq] at h
    have hx : (l.drop o).take m = x := by simpa using congrArg Array.toList h
    subst hx
    cases c with
    | none =>
      simp only [atCells] at hv ⊢
      rw [List.getElem?_take] at hv
      split at hv
      · rwa [List.getElem?_drop] at hv
      · cases hv
    | some k =>
      simp only [atCells] at hv ⊢
      split at hv
      · rename_i hle2
        rw [List.length_take, List.length_drop] at hle2
        rw [if_pos (by omega), ← hv, List.drop_take, List.take_take, List.drop_drop, Nat.min_eq_left (by omega)]
      · cases hv
  · cases h
/-- an element's part -/
theorem RdS.part {R : HP} {kz : Nat} {b o c len : Nat} {xs : List (List Value)} (h : RdS R kz (.slice (some ⟨b, o, none⟩) len c) xs) (hk0 : 0 < kz) {i f : Nat} {x : List Value} {cc : Option Nat} {v : Value} (hi : xs[i]? = some x) (hv : atCells cc x f = some v) :
    ∀ h, R h → ∃ arr T fz, h b = some (.cells arr T fz) ∧ atCells cc arr.toList (o + i * kz + f) = some v := by
  intro g hg
  obtain ⟨arr, T, fz, h1, h2⟩ := h.at hk0 hi g hg
  exact ⟨arr, T, fz, h1, at_part h2 hv⟩
theorem splice_mid {A x B us : List Value} {f : Nat} (h : f + us.length ≤ x.length) : splice (A ++ (x ++ B)) (A.length + f) us = A ++ (splice x f us ++ B) := by
  unfold splice
  have e1 : (A ++ (x ++ B)).take (A.length + f) = A ++ x.take f := by
    rw [List.take_append, List.take_of_length_le (by omega), Nat.add_sub_cancel_left, List.take_append_of_le_length (by omega)]
  have e2 : (A ++ (x ++ B)).drop (A.length + f + us.length) = x.drop (f + us.length) ++ B := by
    rw [List.drop_append, List.drop_eq_nil_of_le (by omega), List.nil_append, show A.length + f + us.length - A.length = f + us.length from by omega, List.drop_append_of_le_length (by omega)]
  rw [e1, e2]
  simp
/-- a part of one element of a flat row set -/
theorem flat_set_part {k i f : Nat} {xs : List (List Value)} {x us : List Value} (h : ∀ x ∈ xs, x.length = k) (hi : xs[i]? = some x) (hf : f + us.length ≤ k) : splice xs.flatten (i * k + f) us = (xs.set i (splice x f us)).flatten := by
  have hlt : i < xs.length := (List.getElem?_eq_some_iff.1 hi).1
  have hxe : xs[i] = x := by rw [List.getElem?_eq_getElem hlt] at hi; exact Option.some.inj hi
  have hxl : x.length = k := by rw [← hxe]; exact h _ (List.getElem_mem hlt)
  have e : xs.set i (splice x f us) = xs.take i ++ splice x f us :: xs.drop (i + 1) := List.set_eq_take_append_cons_drop .. |>.trans (by rw [if_pos hlt])
  have e2 : xs = xs.take i ++ x :: xs.drop (i + 1) := by
    rw [← hxe, ← List.drop_eq_getElem_cons hlt, List.take_append_drop]
  have hA : (xs.take i).flatten.length = i * k := by
    rw [flat_len fun x hx => h x (List.mem_of_mem_take hx), List.length_take, Nat.min_eq_left (by omega)]
  have e3 : xs.flatten = (xs.take i).flatten ++ (x ++ (xs.drop (i + 1)).flatten) := by
    conv => lhs; rw [e2]
    rw [List.flatten_append, List.flatten_cons]
  rw [e3, ← hA, splice_mid (by omega), e, List.flatten_append, List.flatten_cons]
theorem en_rdsA {E kz m : Nat} {v : Value} {xs : List (List Value)} (hk : ∀ x ∈ xs, x.length = kz) (hm : m = xs.length) (pk : Pk aa (OwS E kz v m xs.flatten) r) (k : RdS (OwS E kz v m xs.flatten) kz v xs → En aa J) : En aa J := by
  subst hm
  cases xs with
  | cons x xs => exact en_rds hk (by simp) rfl pk k
  | nil =>
    refine en_ows pk fun a c he => ?_
    subst he
    exact k ⟨by simp, .inl ⟨rfl, _, _, rfl⟩⟩
theorem en_cap {E kz n c : Nat} {a : Option Addr} {cs : List Value} (pk : Pk aa (OwS E kz (.slice a n c) n cs) r) (m : n ≤ c → En aa J) : En aa J := by
  intro h hs
  obtain ⟨h1, h2, d, u, ⟨hl, hx⟩, hr⟩ := pk.out hs
  refine m ?_ h hs
  rcases hx with ⟨he, rfl⟩ | ⟨b, cap, sp, he, hc, _⟩
  · simp only [Value.slice.injEq] at he; omega
  · simp only [Value.slice.injEq] at he; omega
theorem en_two {E kz m : Nat} {v u : Value} {xs : List (List Value)} (hk : ∀ x ∈ xs, x.length = kz) (hm : m = xs.length) (sx : Sx aa [OwS E kz v m xs.flatten, OwS E kz u m xs.flatten] r)
    (k : RdS (OwS E kz v m xs.flatten) kz v xs → RdS (OwS E kz u m xs.flatten) kz u xs → En (OwS E kz v m xs.flatten :: OwS E kz u m xs.flatten :: r) J) : En aa J := by
  refine en_sx sx ?_
  refine en_rdsA hk hm Pk.h fun h1 => ?_
  refine en_rdsA hk hm (Pk.t Pk.h) fun h2 => ?_
  exact k h1 h2
end
end Go.Dv
