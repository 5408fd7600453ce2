import Derived.Test.YthcbefkgfhokoaaFw6
namespace Go.Dv
open Go
section
variable {P : Program} {w : World} {e : Env} {ρ : Operand → Value}

theorem run_eqNil (D : Nat) {t : TypeId} {u v : Value} {k : Nat} {r : Bool} (hk : kindOf P t = k)
    (h : (∃ a, isNil k v = some a ∧ isNil k u = some true ∧ r = a) ∨ (∃ b, isNil k v = some true ∧ isNil k u = some b ∧ r = b)) :
    (Op.equalIn (D + 1) t v u).run P w = .ok r w := by
  unfold kindOf at hk
  cases hu : P.underlying t with
  | none => rw [hu] at hk; simp only at hk; subst hk; rcases h with ⟨a, h1, _, _⟩ | ⟨a, h1, _, _⟩ <;> simp [isNil] at h1
  | some d =>
    rw [hu] at hk
    cases d <;> simp only at hk <;> subst hk
    case pointer el =>
      rcases h with ⟨a, h1, h2, rfl⟩ | ⟨a, h1, h2, rfl⟩ <;> cases v <;> simp [isNil] at h1 <;> cases u <;> simp [isNil] at h2
      · rename_i a1 a2; subst h1; cases a2 <;> simp at h2; cases a1 <;> simp [Op.equalIn, run_underlying hu]
      · rename_i a1 a2; subst h2; cases a1 <;> simp at h1; simp [Op.equalIn, run_underlying hu]
    case slice el =>
      rcases h with ⟨a, h1, h2, rfl⟩ | ⟨a, h1, h2, rfl⟩ <;> cases v <;> simp [isNil] at h1 <;> cases u <;> simp [isNil] at h2
      · rename_i a1 _ _ a2 _ _; subst h1; cases a2 <;> simp at h2; cases a1 <;> simp [Op.equalIn, run_underlying hu]
      · rename_i a1 _ _ a2 _ _; subst h2; cases a1 <;> simp at h1; simp [Op.equalIn, run_underlying hu]
    case map el1 el2 =>
      rcases h with ⟨a, h1, h2, rfl⟩ | ⟨a, h1, h2, rfl⟩ <;> cases v <;> simp [isNil] at h1 <;> cases u <;> simp [isNil] at h2
      · rename_i a1 a2; subst h1; cases a2 <;> simp at h2; cases a1 <;> simp [Op.equalIn, run_underlying hu]
      · rename_i a1 a2; subst h2; cases a1 <;> simp at h1; simp [Op.equalIn, run_underlying hu]
    case func el1 el2 el3 =>
      rcases h with ⟨a, h1, h2, rfl⟩ | ⟨a, h1, h2, rfl⟩ <;> cases v <;> simp [isNil] at h1 <;> cases u <;> simp [isNil] at h2 <;>
        (try subst h1) <;> (try subst h2) <;> simp [Op.equalIn, run_underlying hu]
    all_goals (rcases h with ⟨a, h1, _, _⟩ | ⟨a, h1, _, _⟩ <;> simp [isNil] at h1)

theorem evs_spec : ∀ (xs : List Operand) (vs : List Value), evs e xs = some vs → Agr e ρ → xs.map ρ = vs
  | [], vs, h, _ => by simp only [evs, Option.some.injEq] at h; subst h; rfl
  | x :: xs, vs, h, hρ => by
    simp only [evs] at h
    split at h
    · rename_i v vs' h1 h2
      simp only [Option.some.injEq] at h; subst h
      simp [hρ x v h1, evs_spec xs vs' h2 hρ]
    · cases h

theorem run_bnds (isS : Bool) (len cap : Nat) {lo hi : Option Operand} {l h : Int} (hρ : Agr e ρ) (hl : bnd e 0 lo = some l) (hh : bnd e len hi = some h)
    (c0 : 0 ≤ l) (c1 : l ≤ h) (c2 : h ≤ cap) : (Instr.sliceBounds isS len cap (lo.map ρ) (hi.map ρ) none).run P w = .ok (l.toNat, h.toNat, cap) w := by
  have hbnd : ∀ (d : Nat) (y : Option Operand) (n : Int), bnd e d y = some n → (y = none ∧ n = d) ∨ ∃ z k, y = some z ∧ ρ z = .int k n := by
    intro d y n h
    cases y with
    | none => simp [bnd] at h; exact .inl ⟨rfl, h.symm⟩
    | some z =>
      simp only [bnd] at h
      split at h
      · rename_i k m hz
        simp only [Option.some.injEq] at h; subst h
        exact .inr ⟨z, k, rfl, hρ _ _ hz⟩
      · cases h
  have h1 : (match hi.map ρ with
      | some v => Instr.sliceBound v cap (if isS then .sliceAcap else .sliceAlen)
      | none => pure len : Sem Nat).run P w = .ok h.toNat w := by
    rcases hbnd _ _ _ hh with ⟨rfl, rfl⟩ | ⟨z2, k2, rfl, e2⟩
    · simp
    · simp only [Option.map_some, e2]
      exact run_sliceBound w k2 h cap _ (by omega) (by omega)
  have h2 : ∀ m : Nat, (m : Int) = h → (match lo.map ρ with
      | some v => Instr.sliceBound v m .sliceB
      | none => pure 0 : Sem Nat).run P w = .ok l.toNat w := by
    intro m hm
    rcases hbnd _ _ _ hl with ⟨rfl, rfl⟩ | ⟨z2, k2, rfl, e2⟩
    · simp
    · simp only [Option.map_some, e2]
      exact run_sliceBound w k2 l m _ (by omega) (by omega)
  cases hi with
  | none =>
    simp only [Option.map_none] at h1
    simp only [Instr.sliceBounds, Option.map_none, Sem.run_bind, Sem.run_pure, Result.andThen_ok, Option.isSome_none, Bool.false_eq_true, if_false]
    have hlen : (len : Int) = h := by simp [bnd] at hh; exact hh
    have := h2 len hlen
    have hl' : len = h.toNat := by omega
    cases lo with
    | none => simp only [Option.map_none, Sem.run_pure] at this ⊢; simp at this; simp [← this, hl']
    | some z => simp only [Option.map_some] at this; rw [hl'] at this; simp [this, hl']
  | some y =>
    simp only [Option.map_some] at h1
    simp only [Instr.sliceBounds, Option.map_some, Sem.run_bind, Sem.run_pure, Result.andThen_ok, Option.isSome_none, Bool.false_eq_true, if_false]
    rw [h1]
    simp only [Result.andThen_ok]
    have := h2 h.toNat (by omega)
    cases lo with
    | none => simp only [Option.map_none, Sem.run_pure] at this ⊢; simp at this; simp [← this]
    | some z => simp only [Option.map_some] at this; simp [this]

set_option maxHeartbeats 1000000 in
theorem run_rv {o : Oper} {v : Value} (hr : rv (hw w) e (trX P o) = some v) (hρ : Agr e ρ) : (execOp ρ o).run P w = .ok (.value v) w := by
  obtain ⟨dst, op, ty, pos, aft, gd⟩ := o
  cases op
  case move x => simp only [trX, rv, pv] at hr; simp [execOp, hρ x v hr]
  case assign x => simp only [trX, rv, pv] at hr; simp [execOp, hρ x v hr]
  case pick c a b =>
    simp only [trX, rv, pv] at hr
    split at hr
    · rename_i hc; simp [execOp, hρ _ _ hc, hρ _ _ hr, asBool]
    · rename_i hc; simp [execOp, hρ _ _ hc, hρ _ _ hr, asBool]
    · cases hr
  case nilCheck x =>
    simp only [trX, rv, pv] at hr
    split at hr
    · rename_i u hu
      have := hρ _ _ hu
      unfold notNil at hr
      split at hr <;> simp only [Option.some.injEq, reduceCtorEq] at hr
      · subst hr; simp [execOp, this]
      · subst hr; simp [execOp, this]
    · cases hr
  case binOp bop t x y t2 =>
    simp only [trX] at hr
    split at hr
    · -- int
      simp only [rv, pv] at hr
      split at hr
      · rename_i k a k' b h1 h2
        split at hr
        · rename_i hk; subst hk
          have := run_intBin (P := P) (w := w) (t := t) hr
          simp only [execOp, hρ _ _ h1, hρ _ _ h2, Sem.run_bind]
          have hg : (eqGuard bop t x y (.int k a) (.int k b)).run P w = .ok () w := by
            unfold eqGuard; split <;> simp
          simp [hg, this]
        · cases hr
      · rename_i a b h1 h2
        have := run_strBin (P := P) (w := w) (t := t) hr
        simp only [execOp, hρ _ _ h1, hρ _ _ h2, Sem.run_bind]
        have hg : (eqGuard bop t x y (.string a) (.string b)).run P w = .ok () w := by
          unfold eqGuard; split <;> simp
        simp [hg, this]
      · cases hr
    · -- string
      split at hr
      · simp only [rv] at hr
        split at hr
        · rename_i a b h1 h2
          split at hr
          · rename_i hle
            simp only [Option.some.injEq] at hr; subst hr
            simp only [execOp, hρ _ _ h1, hρ _ _ h2]
            simp [eqGuard, binOp, Op.stringOp]
            omega
          · cases hr
        · cases hr
      · simp only [rv, pv] at hr
        split at hr
        · rename_i k a k' b h1 h2
          split at hr
          · rename_i hk; subst hk
            have := run_intBin (P := P) (w := w) (t := t) hr
            simp only [execOp, hρ _ _ h1, hρ _ _ h2, Sem.run_bind]
            have hg : (eqGuard bop t x y (.int k a) (.int k b)).run P w = .ok () w := by
              unfold eqGuard; split <;> simp
            simp [hg, this]
          · cases hr
        · rename_i a b h1 h2
          have := run_strBin (P := P) (w := w) (t := t) hr
          simp only [execOp, hρ _ _ h1, hρ _ _ h2, Sem.run_bind]
          have hg : (eqGuard bop t x y (.string a) (.string b)).run P w = .ok () w := by
            unfold eqGuard; split <;> simp
          simp [hg, this]
        · cases hr
    · -- bool
      rename_i hk
      have hu : P.underlying t = some .bool := by
        unfold kindOf at hk
        cases hu : P.underlying t with
        | none => rw [hu] at hk; cases hk
        | some d => rw [hu] at hk; cases d <;> simp at hk; rfl
      split at hr
      · simp only [rv, pv] at hr
        split at hr
        · rename_i a b h1 h2
          simp only [Option.some.injEq] at hr; subst hr
          have := run_eql_bool (P := P) w t a b hu
          simp only [execOp, hρ _ _ h1, hρ _ _ h2, Sem.run_bind]
          have hg : (eqGuard .eql t x y (.bool a) (.bool b)).run P w = .ok () w := by
            unfold eqGuard; split <;> simp
          simp [hg, this]
        · cases hr
      · simp only [rv, pv] at hr
        split at hr
        · rename_i a b h1 h2
          simp only [Option.some.injEq] at hr; subst hr
          have := run_neq_bool (P := P) w t a b hu
          simp only [execOp, hρ _ _ h1, hρ _ _ h2, Sem.run_bind]
          have hg : (eqGuard .neq t x y (.bool a) (.bool b)).run P w = .ok () w := by
            unfold eqGuard; split <;> simp
          simp [hg, this]
        · cases hr
      · simp [rv, pv] at hr
    · -- struct
      rename_i hk
      have hn : ∃ n, aggT P t = some (some n) ∨ (aggT P t = none ∧ n = 0) := by
        unfold kindOf at hk
        cases hu : P.underlying t with
        | none => rw [hu] at hk; cases hk
        | some d =>
          rw [hu] at hk; cases d <;> simp at hk
          cases hi : P.info? t with
          | none => exact ⟨0, .inr ⟨by simp [aggT, hu, hi], rfl⟩⟩
          | some i => exact ⟨i.size, .inl (by simp [aggT, hu, hi])⟩
      have hinfo : ∀ ks, flatT P 12 t = some ks → ∃ n, aggT P t = some (some n) := by
        intro ks hks
        obtain ⟨n, hn | ⟨hn, _⟩⟩ := hn
        · exact ⟨n, hn⟩
        · exfalso
          unfold aggT at hn
          unfold kindOf at hk
          cases hu : P.underlying t with
          | none => rw [hu] at hk; cases hk
          | some d =>
            rw [hu] at hk hn
            cases d <;> simp at hk hn
            simp only [Program.underlying, hn] at hu
            cases hu
      split at hr
      · rename_i ks hks
        split at hr
        · simp [rv, pv] at hr
        · rename_i hgt
          have hgt' : P.eqGuardType P.depth t = false := by simpa using hgt
          simp only [rv, pv] at hr
          split at hr
          · rename_i a b h1 h2
            split at hr
            · rename_i r he
              simp only [Option.some.injEq] at hr; subst hr
              obtain ⟨n, hn⟩ := hinfo ks hks
              have hrun := (run_eqT (P := P) (w := w) 12).1 t ks (some n) a.toList b.toList (.agg a) (.agg b) r 10000 hks hn (by omega) (by simp [ofCells]) (by simp [ofCells]) he
              simp only [execOp, hρ _ _ h1, hρ _ _ h2, Sem.run_bind, run_eqGuard_agg w .eql t x y a b hgt', Result.andThen_ok, run_eql_struct w t a b, hrun, Sem.run_pure]
              rfl
            · cases hr
          · cases hr
      · rename_i ks hks
        split at hr
        · simp [rv, pv] at hr
        · rename_i hgt
          have hgt' : P.eqGuardType P.depth t = false := by simpa using hgt
          simp only [rv, pv] at hr
          split at hr
          · rename_i a b h1 h2
            split at hr
            · rename_i r he
              simp only [Option.some.injEq] at hr; subst hr
              obtain ⟨n, hn⟩ := hinfo ks hks
              have hrun := (run_eqT (P := P) (w := w) 12).1 t ks (some n) a.toList b.toList (.agg a) (.agg b) r 10000 hks hn (by omega) (by simp [ofCells]) (by simp [ofCells]) he
              simp only [execOp, hρ _ _ h1, hρ _ _ h2, Sem.run_bind, run_eqGuard_agg w .neq t x y a b hgt', Result.andThen_ok, run_neq_struct w t a b, hrun, Sem.run_pure]
              rfl
            · cases hr
          · cases hr
      · simp [rv, pv] at hr
    · simp [rv, pv] at hr
    · -- nil
      have key : ∀ (neg : Bool) (u1 u2 : Value) (r : Bool), ev e x = some u1 → ev e y = some u2 →
          ((∃ a, isNil (kindOf P t) u1 = some a ∧ isNil (kindOf P t) u2 = some true ∧ r = a) ∨ (∃ b, isNil (kindOf P t) u1 = some true ∧ isNil (kindOf P t) u2 = some b ∧ r = b)) →
          (execOp ρ ⟨dst, .binOp (if neg then .neq else .eql) t x y t2, ty, pos, aft, gd⟩).run P w = .ok (.value (.bool (bif neg then !r else r))) w := by
        intro neg u1 u2 r h1 h2 hor
        have heq := run_eqNil (P := P) (w := w) 9999 (t := t) (u := u2) (v := u1) rfl hor
        have hne : ∃ a, isNil (kindOf P t) u1 = some a := by rcases hor with ⟨a, h, _⟩ | ⟨b, h, _⟩ <;> exact ⟨_, h⟩
        have hne2 : ∃ a, isNil (kindOf P t) u2 = some a := by rcases hor with ⟨a, _, h, _⟩ | ⟨b, _, h, _⟩ <;> exact ⟨_, h⟩
        obtain ⟨a1, ha1⟩ := hne
        obtain ⟨a2, ha2⟩ := hne2
        have hshape : ∀ (u : Value) (a : Bool), isNil (kindOf P t) u = some a → (∃ p, u = .pointer p) ∨ (∃ p l c, u = .slice p l c) ∨ (∃ p, u = .map p) ∨ u = .nilFunc ∨ ∃ f p q, u = .func f p q := by
          intro u a h
          unfold isNil at h
          split at h <;> simp at h
          · exact .inl ⟨_, rfl⟩
          · exact .inr (.inl ⟨_, _, _, rfl⟩)
          · exact .inr (.inr (.inl ⟨_, rfl⟩))
          · exact .inr (.inr (.inr (.inl rfl)))
          · exact .inr (.inr (.inr (.inr ⟨_, _, _, rfl⟩)))
        have s1 := hshape u1 a1 ha1
        have s2 := hshape u2 a2 ha2
        have hg : ∀ op, (eqGuard op t x y u1 u2).run P w = .ok () w := by
          intro op
          clear heq hor h1 h2 ha1 ha2 s2
          rcases s1 with ⟨_, rfl⟩ | ⟨_, _, _, rfl⟩ | ⟨_, rfl⟩ | rfl | ⟨_, _, _, rfl⟩ <;> cases op <;> simp [eqGuard]
        have hb : (binOp .eql t u1 u2).run P w = .ok (.bool r) w := by
          rcases s1 with ⟨_, rfl⟩ | ⟨_, _, _, rfl⟩ | ⟨_, rfl⟩ | rfl | ⟨_, _, _, rfl⟩ <;> rcases s2 with ⟨_, rfl⟩ | ⟨_, _, _, rfl⟩ | ⟨_, rfl⟩ | rfl | ⟨_, _, _, rfl⟩ <;>
            (simp only [binOp, Sem.run_bind, Op.equal, Op.maxDepth]; rw [heq]; rfl)
        have hb2 : (binOp .neq t u1 u2).run P w = .ok (.bool (!r)) w := by
          rcases s1 with ⟨_, rfl⟩ | ⟨_, _, _, rfl⟩ | ⟨_, rfl⟩ | rfl | ⟨_, _, _, rfl⟩ <;> rcases s2 with ⟨_, rfl⟩ | ⟨_, _, _, rfl⟩ | ⟨_, rfl⟩ | rfl | ⟨_, _, _, rfl⟩ <;>
            (simp only [binOp, Sem.run_bind, Op.equal, Op.maxDepth]; rw [heq]; rfl)
        cases neg <;> simp [execOp, hρ _ _ h1, hρ _ _ h2, hg, hb, hb2]
      split at hr
      · simp only [rv, pv] at hr
        split at hr
        · rename_i u1 u2 h1 h2
          split at hr
          · rename_i a ha hb
            simp only [Option.some.injEq] at hr; subst hr
            exact key false u1 u2 a h1 h2 (.inl ⟨a, ha, hb, rfl⟩)
          · simp only [Option.some.injEq] at hr; subst hr
            exact key false u1 u2 _ h1 h2 (.inr ⟨_, by assumption, by assumption, rfl⟩)
          · cases hr
        · cases hr
      · simp only [rv, pv] at hr
        split at hr
        · rename_i u1 u2 h1 h2
          split at hr
          · rename_i a ha hb
            simp only [Option.some.injEq] at hr; subst hr
            exact key true u1 u2 a h1 h2 (.inl ⟨a, ha, hb, rfl⟩)
          · simp only [Option.some.injEq] at hr; subst hr
            exact key true u1 u2 _ h1 h2 (.inr ⟨_, by assumption, by assumption, rfl⟩)
          · cases hr
        · cases hr
      · simp [rv, pv] at hr
  case unOp uop t x =>
    simp only [trX, rv, pv] at hr
    split at hr
    · rename_i b hb
      simp only [Option.some.injEq] at hr; subst hr
      simp [execOp, hρ _ _ hb, Op.unary]
    · rename_i k n hb
      simp only [Option.some.injEq] at hr; subst hr
      simp [execOp, hρ _ _ hb, Op.unary, Op.intArith]
    · cases hr
  case convert s d x =>
    simp only [trX] at hr
    split at hr
    · rename_i k0 k h1 h2
      simp only [rv, pv] at hr
      split at hr
      · rename_i k1 n hn
        simp only [Option.some.injEq] at hr; subst hr
        simp [execOp, hρ _ _ hn, convert, run_underlying h1, run_underlying h2, Conv.intToInt]
      · cases hr
    · simp [rv, pv] at hr
  case fieldAddr s x f =>
    simp only [trX] at hr
    split at hr
    · rename_i fs hu
      split at hr
      · rename_i fd hfd
        split at hr
        · rename_i i hi
          split at hr
          · simp [rv, pv] at hr
          · rename_i hne
            simp only [rv, pv] at hr
            split at hr
            · rename_i b o hp
              simp only [Option.some.injEq] at hr; subst hr
              simp [execOp, hρ _ _ hp, Instr.fieldAt, run_underlying hu, hfd, Instr.sureAddr, fieldPlace, sizeOf, typeInfo, hi, hne, add_none]
            · cases hr
        · simp [rv, pv] at hr
      · simp [rv, pv] at hr
    · simp [rv, pv] at hr
  case field s x f =>
    simp only [trX] at hr
    split at hr
    · rename_i fs hu
      split at hr
      · rename_i fd hfd
        split at hr
        · rename_i n hn
          simp only [rv, pv] at hr
          split at hr
          · rename_i cs hcs
            have := run_part (P := P) (w := w) hn hr
            simp [execOp, hρ _ _ hcs, Instr.field, run_underlying hu, hfd, asAgg, this]
          · cases hr
        · simp [rv, pv] at hr
      · simp [rv, pv] at hr
    · simp [rv, pv] at hr
  case indexAddr t x i =>
    simp only [trX] at hr
    split at hr
    · rename_i el hu
      split at hr
      · rename_i sz hsz
        simp only [rv] at hr
        split at hr
        · rename_i b o len cap k n h1 h2
          split at hr
          · rename_i hb
            simp only [Option.some.injEq] at hr; subst hr
            have hs : (sizeOf el).run P w = .ok sz w := by
              unfold sizeT at hsz
              cases hi : P.info? el with
              | none => simp [hi] at hsz
              | some i => simp [hi] at hsz; simp [sizeOf, typeInfo, hi, hsz]
            simp [execOp, hρ _ _ h1, hρ _ _ h2, Instr.indexAt, asIntOf, run_underlying hu, hb, hs, add_none]
          · cases hr
        · cases hr
      · simp [rv, pv] at hr
    · simp [rv, pv] at hr
  case index t x i =>
    simp only [trX] at hr
    split at hr
    · rename_i hu
      simp only [rv] at hr
      split at hr
      · rename_i s k n h1 h2
        split at hr
        · rename_i h0
          split at hr
          · rename_i b hb
            simp only [Option.some.injEq] at hr; subst hr
            simp [execOp, hρ _ _ h1, hρ _ _ h2, Instr.index, asIntOf, run_underlying hu, h0, hb]
          · cases hr
        · cases hr
      · cases hr
    · simp [rv, pv] at hr
  case build t parts =>
    simp only [trX] at hr
    split at hr
    · rename_i i pl hi hp
      split at hr
      · rename_i z ps hz hm
        simp only [rv] at hr
        have := run_bld (P := P) (w := w) hi hp hz hm hρ hr
        simp [execOp, this]
      · simp [rv, pv] at hr
    · simp [rv, pv] at hr
  case extract x i =>
    simp only [trX, rv, pv] at hr
    split at hr
    · rename_i vs hvs
      simp [execOp, hρ _ _ hvs, Instr.extract]
      have : vs[i]? = some v := by simpa using hr
      simp [this]
    · cases hr
  case makeFunc fn a b =>
    simp only [trX, rv, pv] at hr
    split at hr
    · rename_i va vb h1 h2
      simp only [Option.some.injEq] at hr; subst hr
      have e1 := evs_spec _ _ h1 hρ
      have e2 := evs_spec _ _ h2 hρ
      have e1' : a.map ρ = va.toArray := by apply Array.ext'; simpa using e1
      have e2' : b.map ρ = vb.toArray := by apply Array.ext'; simpa using e2
      simp [execOp, Instr.makeFunc, e1', e2']
    · cases hr
  case load t x =>
    simp only [trX] at hr
    split at hr
    · rename_i n hn
      simp only [rv] at hr
      split at hr
      · rename_i b o hp
        split at hr
        · rename_i c T fz hb
          have := run_loadAgg (P := P) hn hb hr
          simp [execOp, hρ _ _ hp, Instr.loadAt, Instr.sureAddr, this]
        · cases hr
      · cases hr
    · simp [rv, pv] at hr
  case slice t x lo hi mx =>
    cases mx with
    | some m => simp [trX, rv, pv] at hr
    | none =>
      simp only [trX] at hr
      split at hr
      · rename_i hu
        simp only [rv] at hr
        split at hr
        · rename_i s hs
          split at hr
          · rename_i l h hl hh
            split at hr
            · rename_i hc
              obtain ⟨c0, c1, c2⟩ := hc
              simp only [Option.some.injEq] at hr; subst hr
              have hb := run_bnds (P := P) (w := w) false s.size s.size hρ hl hh c0 c1 c2
              simp only [execOp, hρ _ _ hs, Sem.run_bind, Instr.sliceAt, run_underlying hu, Result.andThen_ok, Instr.slice, Option.map_none, Option.isSome_none, Bool.false_eq_true, if_false, hb, Sem.run_pure]
            · cases hr
          · cases hr
        · cases hr
      · rename_i el hu
        split at hr
        · rename_i sz hsz
          have hs' : (sizeOf el).run P w = .ok sz w := by
            unfold sizeT at hsz
            cases hi : P.info? el with
            | none => simp [hi] at hsz
            | some i => simp [hi] at hsz; simp [sizeOf, typeInfo, hi, hsz]
          simp only [rv] at hr
          split at hr
          · rename_i a len cap hs
            split at hr
            · rename_i l h hl hh
              split at hr
              · rename_i hc
                obtain ⟨c0, c1, c2⟩ := hc
                simp only [Option.some.injEq] at hr; subst hr
                have hb := run_bnds (P := P) (w := w) true len cap hρ hl hh c0 c1 c2
                simp only [execOp, hρ _ _ hs, Sem.run_bind, Instr.sliceAt, run_underlying hu, Result.andThen_ok, Instr.slice, Option.map_none, hb, hs', Sem.run_pure]
                have hiff : (cap = l.toNat) ↔ ((cap : Int) = l) := by omega
                congr 3
                by_cases hcl : cap = l.toNat
                · rw [if_pos hcl, if_pos (hiff.1 hcl)]
                · rw [if_neg hcl, if_neg (fun h => hcl (hiff.2 h))]
              · cases hr
            · cases hr
          · cases hr
        · simp [rv, pv] at hr
      · simp [rv, pv] at hr
  case call c =>
    obtain ⟨callee, args, argTypes⟩ := c
    have hargs : ∀ (l : List Operand), args.toList = l → args.map ρ = (l.map ρ).toArray := by
      intro l hl; apply Array.ext'; simp [hl]
    cases callee with
    | value f =>
      cases f <;> simp only [trX] at hr <;> first
        | (simp [rv, pv] at hr; done)
        | (split at hr <;> first | (simp [rv, pv] at hr; done) | (split at hr <;> simp [rv, pv] at hr))
    | invoke r m => simp [trX, rv, pv] at hr
    | builtin b =>
      cases b <;> simp only [trX] at hr <;> first
        | (simp [rv, pv] at hr; done)
        | skip
      case len =>
        split at hr
        · rename_i x t h1 h2
          split at hr
          · rename_i hu
            simp only [rv, pv] at hr
            have ht : argTypes[0]? = some t := by rw [← Array.getElem?_toList, h2]; rfl
            split at hr
            · rename_i s hx
              simp only [Option.some.injEq] at hr; subst hr
              have hx' := hρ _ _ hx
              simp [execOp, resolve, hargs _ h1, hx', invoke, builtin, Builtin.len_, ht, run_underlying hu, goInt]
            · cases hr
          · rename_i el hu
            simp only [rv, pv] at hr
            have ht : argTypes[0]? = some t := by rw [← Array.getElem?_toList, h2]; rfl
            split at hr
            · rename_i a n cap hx
              simp only [Option.some.injEq] at hr; subst hr
              have hx' := hρ _ _ hx
              simp [execOp, resolve, hargs _ h1, hx', invoke, builtin, Builtin.len_, ht, run_underlying hu, goInt]
            · cases hr
          · simp [rv, pv] at hr
        · simp [rv, pv] at hr
      case max =>
        split at hr
        · rename_i x y t ts h1 h2
          split at hr
          · simp only [rv, pv] at hr
            split at hr
            · rename_i k a k' b hx hy
              split at hr
              · rename_i hk; subst hk
                simp only [Option.some.injEq] at hr; subst hr
                have hx' := hρ _ _ hx
                have hy' := hρ _ _ hy
                simp [execOp, resolve, hargs _ h1, hx', hy', invoke, builtin, run_max_int2]
              · cases hr
            · cases hr
          · simp [rv, pv] at hr
        · simp [rv, pv] at hr
      case min =>
        split at hr
        · rename_i x y t ts h1 h2
          split at hr
          · simp only [rv, pv] at hr
            split at hr
            · rename_i k a k' b hx hy
              split at hr
              · rename_i hk; subst hk
                simp only [Option.some.injEq] at hr; subst hr
                have hx' := hρ _ _ hx
                have hy' := hρ _ _ hy
                simp [execOp, resolve, hargs _ h1, hx', hy', invoke, builtin, run_min_int2]
              · cases hr
            · cases hr
          · simp [rv, pv] at hr
        · simp [rv, pv] at hr
  case store t x v =>
    simp only [trX] at hr
    split at hr <;> simp [rv, pv] at hr
  case box t v =>
    simp only [trX] at hr
    split at hr <;> simp [rv, pv] at hr
  case alloc t =>
    simp only [trX] at hr
    split at hr
    · split at hr <;> simp [rv, pv] at hr
    · simp [rv, pv] at hr
  all_goals simp [trX, rv, pv] at hr
end
end Go.Dv
