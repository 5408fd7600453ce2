import Derived.Test.YthcbefkgfhokoaaFw8
namespace Go.Dv
open Go

abbrev Gl := Os × Array (Nat × ByteArray)
def okG (g : Gl) (w : World) : Prop := w.os = g.1 ∧ w.output = g.2

inductive MT where
  | done
  | rd (d : Option Nat) (g : Option (Nat × Bool)) (m : Option Nat) (x : MX) (t : MT)
  | ef (d : Option Nat) (g : Option (Nat × Bool)) (i : Nat) (x : MX) (t : MT)
  | alt (a b : MT)

def put (e : Env) (d : Option Nat) (v : Value) : Env := match d with
  | some d => (d, v) :: e
  | none => e
def gdv (e : Env) : Option (Nat × Bool) → Option Bool
  | none => some true
  | some (s, want) => match e.get s with
    | some (.bool b) => some (b == want)
    | some _ => some false
    | none => none
def RV (P : Program) (h : PH) (e : Env) (x : MX) (v : Value) : Prop := match x with
  | .raw o => known e o.op.operands.toList ∧ (∀ cs b, o.op ≠ .select cs b) ∧ ∀ w, hw w = h → (execOp (evD e) o).run P w = .ok (.value v) w
  | x => rv h e x = some v

abbrev Pn := List (Nat × (PH → Prop))
def Pnd : Pn → Nat → PH → Prop
  | [], _, _ => True
  | (m, T) :: r, D, h => (m &&& D = 0 → T h) ∧ Pnd r D h
def remember (P : Program) (m : Option Nat) (e : Env) (x : MX) (v : Value) (pend : Pn) : Pn := match m with
  | none => pend
  | some E => (E, fun h => RV P h e x v) :: pend

def Env.le (e0 e : Env) : Prop := ∀ t v, e0.get t = some v → e.get t = some v
theorem Env.le_refl (e : Env) : Env.le e e := fun _ _ h => h

/-- What a region does, walked along its tree. (At each step something may be forgotten.) -/
def HTh (P : Program) (gl : Gl) (K : Env → PH → Prop) : MT → Pn → Nat → Env → PH → Prop
  | .done, _, _, e, h => ∃ e0, Env.le e0 e ∧ K e0 h
  | .rd d g m x t, pend, D, e, h => ∃ e0, Env.le e0 e ∧
    ((gdv e0 g = some true ∧ ∃ v, RV P h e0 x v ∧ HTh P gl K t (remember P m e0 x v pend) D (put e0 d v) h) ∨
    (gdv e0 g = some false ∧ HTh P gl K t pend D (put e0 d undef) h))
  | .ef d g i x t, pend, D, e, h => ∃ e0, Env.le e0 e ∧
    ((gdv e0 g = some true ∧ ∀ w, hw w = h → okG gl w → efX P e0 x w fun v w' => okG gl w' ∧ Pnd pend (D ||| 2 ^ i) (hw w') ∧ HTh P gl K t pend (D ||| 2 ^ i) (put e0 d v) (hw w')) ∨
    (gdv e0 g = some false ∧ HTh P gl K t pend (D ||| 2 ^ i) (put e0 d undef) h))
  | .alt a b, pend, D, e, h => HTh P gl K a pend D e h ∧ HTh P gl K b pend D e h
theorem HTh_mono {P : Program} {gl : Gl} {K : Env → PH → Prop} {e0 e : Env} (hle : Env.le e0 e) : ∀ {t : MT} {pend : Pn} {D : Nat} {h : PH}, HTh P gl K t pend D e0 h → HTh P gl K t pend D e h
  | .done, _, _, _, ⟨e1, h1, h2⟩ => ⟨e1, fun t v h => hle _ _ (h1 t v h), h2⟩
  | .rd .., _, _, _, ⟨e1, h1, h2⟩ => ⟨e1, fun t v h => hle _ _ (h1 t v h), h2⟩
  | .ef .., _, _, _, ⟨e1, h1, h2⟩ => ⟨e1, fun t v h => hle _ _ (h1 t v h), h2⟩
  | .alt .., _, _, _, ⟨h1, h2⟩ => ⟨HTh_mono hle h1, HTh_mono hle h2⟩

/-! ### the trees of a region -/
def gslot (ops : Array Oper) (o : Oper) : Option (Option (Nat × Bool)) := match o.guard with
  | none => some none
  | some (j, want) => match (ops[j]?).bind (·.dst) with
    | some s => some (some (s, want))
    | none => none
def effRaw : Op → Bool
  | .lookup .. | .binOp .. | .unOp .. | .slice .. | .index .. | .field .. | .fieldAddr .. | .indexAddr .. | .load .. | .makeInterface .. | .waits _ | .entry _ | .typeAssert .. | .extract .. => false
  | .call { callee := .builtin .len, .. } | .call { callee := .builtin .cap, .. } | .call { callee := .builtin .min, .. } | .call { callee := .builtin .max, .. } => false
  | _ => true
def isEff : MX → Bool
  | .st .. | .bx .. | .al .. | .cl .. | .cv .. => true
  | .raw o => effRaw o.op
  | _ => false
def isMem : MX → Bool
  | .ld .. | .raw _ => true
  | _ => false
def hangs (i m : Nat) (o : Oper) : Bool := o.after.any fun e => Region.binds .any e && (e.on == i || m.testBit e.on)
def depMask (ops : Array Oper) (i : Nat) : Nat := ops.toList.zipIdx.foldl (fun m (x : Oper × Nat) => bif hangs i m x.1 then m ||| 2 ^ x.2 else m) 0
def okDep (ops : Array Oper) (i m : Nat) : Bool := (List.range (m + 1).log2.succ).all fun j => !m.testBit j || (match ops[j]? with
  | some o => hangs i m o
  | none => false)
def altL : List MT → MT
  | [] => .done
  | [t] => t
  | t :: ts => .alt t (altL ts)
def mkT (P : Program) (ops : Array Oper) (E : Nat) : Nat → Array Bool → Option MT
  | 0, listed => if (Region.ready .any ops listed).isEmpty then some .done else none
  | fuel + 1, listed => match (Region.ready .any ops listed).find? (fun i => !E.testBit i) with
    | some i => match ops[i]? with
      | some o => match gslot ops o, mkT P ops E fuel (listed.setIfInBounds i true) with
        | some g, some t => bif Region.free .any ops listed i then
            (bif isMem (trX P o) then (bif okDep ops i (depMask ops i) then some (.rd o.dst g (some (depMask ops i &&& E)) (trX P o) t) else none)
             else some (.rd o.dst g none (trX P o) t))
          else none
        | _, _ => none
      | none => none
    | none => ((Region.ready .any ops listed).mapM fun i => match ops[i]? with
      | some o => match gslot ops o, mkT P ops E fuel (listed.setIfInBounds i true) with
        | some g, some t => some (MT.ef o.dst g i (trX P o) t)
        | _, _ => none
      | none => none).map altL
def effMask (P : Program) (ops : Array Oper) : Nat := ops.toList.zipIdx.foldl (fun m (x : Oper × Nat) => bif isEff (trX P x.1) then m ||| 2 ^ x.2 else m) 0
def seqT (P : Program) (ops : Array Oper) : List Nat → Option MT
  | [] => some .done
  | i :: l => match ops[i]? with
    | some o => match gslot ops o, seqT P ops l with
      | some g, some t => some (bif isEff (trX P o) then .ef o.dst g 0 (trX P o) t else .rd o.dst g none (trX P o) t)
      | _, _ => none
    | none => none
def dstOk (n : Nat) (ops : Array Oper) : Bool := ops.all fun o => match o.dst with
  | some d => Nat.blt d n
  | none => true

section
variable {P : Program} {gl : Gl} {n : Nat} {e : Env} {a : Act} {ops : Array Oper}

theorem Ag.le {e0 : Env} (h : Ag n e a) (hle : Env.le e0 e) : Ag n e0 a := ⟨h.1, h.2.1, fun t v ht => h.2.2 t v (hle t v ht)⟩
theorem Ag.agr (h : Ag n e a) : Agr e a.eval := by
  intro y u hy
  cases y with
  | tmp t => simp only [ev] at hy; simp [Act.eval, h.2.2 t u hy]
  | const v => simpa [ev, Act.eval] using hy
  | global g => simpa [ev, Act.eval] using hy
  | func f => simpa [ev, Act.eval] using hy

theorem Ag.put {d : Option Nat} {v : Value} (h : Ag n e a) (hd : ∀ k, d = some k → k < n) : Ag n (put e d v) (a.put d v) := by
  cases d with
  | none => exact h
  | some d =>
    have hdn := hd d rfl
    obtain ⟨h1, h2, h3⟩ := h
    refine ⟨h1, by simpa [Act.put] using h2, fun t u ht => ?_⟩
    simp only [Dv.put, Env.get] at ht
    have hds : d < a.tmps.size := by omega
    by_cases hdt : d = t
    · subst hdt
      simp at ht
      simp [Act.put, hds, ht]
    · have hb : Nat.beq d t = false := by
        cases hq : Nat.beq d t with
        | false => rfl
        | true => exact absurd (Nat.eq_of_beq_eq_true hq) hdt
      rw [hb] at ht
      simp only [Act.put, Array.getElem?_setIfInBounds_ne hdt]
      exact h3 t u ht

theorem wanted_of {o : Oper} {g : Option (Nat × Bool)} {b : Bool} (h : Ag n e a) (hg : gslot ops o = some g) (hv : gdv e g = some b) :
    Region.wanted o (yielded ops a.tmps) = b := by
  unfold gslot at hg
  unfold Region.wanted
  cases hgd : o.guard with
  | none => rw [hgd] at hg; simp only [Option.some.injEq] at hg; subst hg; simpa [gdv] using hv
  | some q =>
    obtain ⟨j, want⟩ := q
    rw [hgd] at hg
    simp only at hg
    split at hg
    · rename_i s hs
      simp only [Option.some.injEq] at hg; subst hg
      simp only [gdv] at hv
      split at hv
      · rename_i c hc
        simp only [Option.some.injEq] at hv; subst hv
        have := h.2.2 _ _ hc
        simp [yielded, hs, this]
      · rename_i c hnb hc
        simp only [Option.some.injEq] at hv; subst hv
        have := h.2.2 _ _ hc
        cases c <;> first
          | (exact absurd rfl (hnb _))
          | (simp [yielded, hs, this])
      · cases hv
    · cases hg

theorem dstOk_spec (hd : dstOk n ops = true) {i : Nat} {o : Oper} (hi : ops[i]? = some o) : ∀ k, o.dst = some k → k < n := by
  intro k hk
  unfold dstOk at hd
  have := Array.all_eq_true_iff_forall_mem.1 hd o (Array.mem_of_getElem? hi)
  rw [hk] at this
  simpa [Nat.blt_eq] using this

theorem RV_run {o : Oper} {w : World} {v : Value} (h : RV P (hw w) e (trX P o) v) (ha : Agr e a.eval) : (execOp a.eval o).run P w = .ok (.value v) w := by
  have key : ∀ o', trX P o = .raw o' → o' = strip o := by
    intro o' h
    obtain ⟨dst, op, ty, pos, aft, gd⟩ := o
    cases op <;> simp only [trX] at h <;> first
      | (cases h; done)
      | (injection h with h; exact h.symm)
      | skip
    all_goals (repeat' (first | (cases h; done) | (injection h with h; exact h.symm) | split at h))
  unfold RV at h
  split at h
  · rename_i o' hx
    obtain ⟨hk, hs, hr⟩ := h
    obtain rfl := key o' hx
    show (execOp a.eval (strip o)).run P w = .ok (.value v) w
    rw [execOp_congr (ρ := a.eval) (ρ' := evD e) (strip o) hs ?_]
    · exact hr w rfl
    · intro x hx
      obtain ⟨v, hv⟩ := known_mem hk x (by simpa using hx)
      rw [ha x v hv]; simp [evD, hv]
  · exact run_rv h ha
end
end Go.Dv
