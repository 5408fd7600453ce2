import Derived.Test.YthcbefkgfhokoaaFw2
/- From the model's operations to the plain ones. -/
namespace Go.Dv
open Go

section
variable (P : Program)

mutual
def flatT : Nat → TypeId → Option (List CK)
  | 0, _ => none
  | d + 1, t => match P.underlying t with
    | some (.int k) => some [.int k]
    | some .string => some [.str]
    | some .bool => some [.bool]
    | some (.struct fs) => if P.stoodInHeld t then none else flatF d fs.toList 0
    | _ => none
def flatF : Nat → List Field → Nat → Option (List CK)
  | 0, _, _ => none
  | _ + 1, [], _ => some []
  | d + 1, f :: fs, o => match flatT d f.type, P.info? f.type with
    | some ks, some i => if f.offset = o ∧ f.name ≠ "_" ∧ i.size = ks.length ∧ 0 < ks.length then match flatF d fs (o + ks.length) with
      | some r => some (ks ++ r)
      | none => none else none
    | _, _ => none
end

def kindOf (t : TypeId) : Nat := match P.underlying t with
  | some (.int _) => 1
  | some .string => 2
  | some .bool => 3
  | some (.pointer _) => 4
  | some (.slice _) => 6
  | some (.map ..) => 7
  | some (.func ..) => 8
  | some (.struct _) => 5
  | _ => 0
def sizeT (t : TypeId) : Option Nat := (P.info? t).map (·.size)
/-- none: one cell; some n: n cells. -/
def aggT (t : TypeId) : Option (Option Nat) := match P.underlying t with
  | none => none
  | some (.struct _) | some (.array ..) => (P.info? t).map fun i => some i.size
  | some _ => some none
def placesT (t : TypeId) : Option (List (Nat × Nat)) := match P.underlying t with
  | some (.struct fs) => fs.toList.mapM fun f => (P.info? f.type).map fun i => (f.offset, i.size)
  | _ => none

def strip (o : Oper) : Oper := ⟨none, o.op, o.type, "", #[], none⟩
def trX (o : Oper) : MX := match o.op with
  | .move x => .mv x
  | .assign x => .mv x
  | .pick c a b => .pick c a b
  | .nilCheck x => .nz x
  | .binOp op t x y _ => match kindOf P t with
    | 1 => .bin op x y
    | 2 => match op with
      | .add => .cat x y
      | _ => .bin op x y
    | 3 => match op with
      | .eql => .eqb false x y
      | .neq => .eqb true x y
      | _ => .raw (strip o)
    | 5 => match op, flatT P 12 t with
      | .eql, some ks => if P.eqGuardType P.depth t then .raw (strip o) else .eqs false ks x y
      | .neq, some ks => if P.eqGuardType P.depth t then .raw (strip o) else .eqs true ks x y
      | _, _ => .raw (strip o)
    | 0 => .raw (strip o)
    | k => match op with
      | .eql => .eqn k false x y
      | .neq => .eqn k true x y
      | _ => .raw (strip o)
  | .unOp op _ x => .un op x
  | .convert s d x => match P.underlying s, P.underlying d with
    | some (.int _), some (.int k) => .cvi k x
    | _, _ => .raw (strip o)
  | .fieldAddr s x f => match P.underlying s with
    | some (.struct fs) => match fs[f]? with
      | some fd => match P.info? fd.type with
        | some i => if i.size = 0 then .raw (strip o) else .fa fd.offset x
        | none => .raw (strip o)
      | none => .raw (strip o)
    | _ => .raw (strip o)
  | .field s x f => match P.underlying s with
    | some (.struct fs) => match fs[f]? with
      | some fd => match aggT P fd.type with
        | some n => .fl fd.offset n x
        | none => .raw (strip o)
      | none => .raw (strip o)
    | _ => .raw (strip o)
  | .indexAddr t x i => match P.underlying t with
    | some (.slice e) => match sizeT P e with
      | some n => .ia n x i
      | none => .raw (strip o)
    | _ => .raw (strip o)
  | .index t x i => match P.underlying t with
    | some .string => .ixs x i
    | _ => .raw (strip o)
  | .build t parts => match P.info? t, placesT P t with
    | some i, some pl => match i.zero, parts.toList.mapM (fun p => (pl[p.1]?).map fun q => (q.1, q.2, p.2)) with
      | some z, some ps => .bld z.cells.toList ps
      | _, _ => .raw (strip o)
    | _, _ => .raw (strip o)
  | .extract x i => .ext x i
  | .makeFunc fn a b => .mf fn a.toList b.toList
  | .slice t x lo hi none => match P.underlying t with
    | some .string => .sls x lo hi
    | some (.slice e) => match sizeT P e with
      | some n => .slc n x lo hi
      | none => .raw (strip o)
    | _ => .raw (strip o)
  | .load t x => match aggT P t with
    | some n => .ld n x
    | none => .raw (strip o)
  | .store t x v => match sizeT P t with
    | some n => .st n x v
    | none => .raw (strip o)
  | .box t v => match sizeT P t with
    | some n => .bx t n v
    | none => .raw (strip o)
  | .alloc t => match P.info? t with
    | some i => match i.zero with
      | some z => .al t z.cells.toList
      | none => .raw (strip o)
    | none => .raw (strip o)
  | .call c => match c.callee with
    | .value (.func f) => match P.funcs[f]? with
      | some fn => if fn.name == "runtime.NumGoroutine" || fn.body.isNone then .raw (strip o) else .cl f c.args.toList
      | none => .raw (strip o)
    | .value x => .cv x c.args.toList
    | .builtin .len => match c.args.toList, c.argTypes.toList with
      | [x], [t] => match P.underlying t with
        | some .string => .slen x
        | some (.slice _) => .len x
        | _ => .raw (strip o)
      | _, _ => .raw (strip o)
    | .builtin .max => match c.args.toList, c.argTypes.toList with
      | [x, y], t :: _ => if kindOf P t = 1 then .mm true x y else .raw (strip o)
      | _, _ => .raw (strip o)
    | .builtin .min => match c.args.toList, c.argTypes.toList with
      | [x, y], t :: _ => if kindOf P t = 1 then .mm false x y else .raw (strip o)
      | _, _ => .raw (strip o)
    | _ => .raw (strip o)
  | _ => .raw (strip o)
end

/-! ### What the plain ones say is what the model does: those that leave the world as it is -/
section
variable {P : Program} {w : World} {e : Env} {ρ : Operand → Value}

def Agr (e : Env) (ρ : Operand → Value) : Prop := ∀ y u, ev e y = some u → ρ y = u

theorem str_eq (a b : ByteArray) : (a.toList == b.toList) = decide (a = b) := by
  have h : a.toList = b.toList ↔ a = b := by
    rw [ByteArray.toList_eq, ByteArray.toList_eq]
    constructor
    · intro h
      obtain ⟨⟨x⟩⟩ := a
      obtain ⟨⟨y⟩⟩ := b
      simp only at h
      rw [h]
    · rintro rfl; rfl
  rw [Bool.eq_iff_iff, beq_iff_eq, decide_eq_true_iff, h]

theorem bl_total : ∀ (x y : List UInt8), (!(Op.bytesLess x y || x == y)) = Op.bytesLess y x
  | [], [] => by simp [Op.bytesLess]
  | [], b :: y => by simp [Op.bytesLess]
  | a :: x, [] => by simp [Op.bytesLess]
  | a :: x, b :: y => by
    have ih := bl_total x y
    simp only [Op.bytesLess, List.cons_beq_cons]
    by_cases h1 : a < b
    · have h2 : ¬ b < a := by simp only [UInt8.lt_iff_toNat_lt] at *; omega
      have h3 : ¬ b = a := by intro h; subst h; simp only [UInt8.lt_iff_toNat_lt] at *; omega
      simp [h1, h2, h3]
    · by_cases h2 : a = b
      · subst h2
        simp only [h1, decide_false, beq_self_eq_true, Bool.true_and, Bool.false_or]
        exact ih
      · have h3 : b < a := by
          simp only [UInt8.lt_iff_toNat_lt] at *
          have : a.toNat ≠ b.toNat := fun h => h2 (UInt8.toNat_inj.1 h)
          omega
        simp [h1, h2, h3]

theorem int_eq (a b : Int) : (a == b) = decide (a = b) := by rw [Bool.eq_iff_iff, beq_iff_eq, decide_eq_true_iff]

theorem run_intBin {op : BinOp} {k : IntKind} {a b : Int} {t : TypeId} {v : Value} (h : intBin op k a b = some v) :
    (binOp op t (.int k a) (.int k b)).run P w = .ok v w := by
  cases op <;> simp only [intBin, reduceCtorEq, Option.some.injEq] at h <;> first
    | (subst h; simp [binOp, Op.intArith]; done)
    | (subst h; simp [binOp, Op.intCmp]; done)
    | (split at h <;> simp only [reduceCtorEq, Option.some.injEq] at h; subst h; simp [binOp, Op.intDiv, *]; done)
    | (subst h; simp [binOp, Op.intCmp, bne, int_eq]; done)

theorem slt_gtr (a b : ByteArray) : (!(Op.bytesLess a.toList b.toList || a.toList == b.toList)) = slt b a := bl_total _ _
theorem slt_leq (a b : ByteArray) : (Op.bytesLess a.toList b.toList || a.toList == b.toList) = !slt b a := by rw [← slt_gtr, Bool.not_not]

theorem run_strBin {op : BinOp} {a b : ByteArray} {t : TypeId} {v : Value} (h : strBin op a b = some v) :
    (binOp op t (.string a) (.string b)).run P w = .ok v w := by
  cases op <;> simp only [strBin, reduceCtorEq, Option.some.injEq] at h <;> subst h <;> simp only [binOp, Op.stringOp, Sem.run_pure]
  case eql => rw [str_eq]
  case neq => rw [str_eq]
  case lss => rfl
  case leq => rw [slt_leq]
  case gtr => rw [slt_gtr]
  case geq => rfl
end
end Go.Dv
