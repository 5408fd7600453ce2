import Derived.Test.YthcbefkgfhokoaaFwB
namespace Go.Dv
open Go

def findM : MC → Nat → Option MC
  | .seq a b, l => match findM a l with
    | some r => some (.seq r b)
    | none => findM b l
  | .label l', l => if l' == l then some .skip else none
  | _, _ => none
def scopeK (b : MC) (J : Nat → Env → PH → Prop) (K : Kx) : Kx
  | .goto l => fun e h => (findM b l ≠ none ∧ J l e h) ∨ (findM b l = none ∧ K (.goto l) e h)
  | x => K x

section
variable {P : Program} {n : Nat} {gl : Gl} {K : Kx} {e : Env} {h : PH}

theorem tr_find : ∀ (c : Code) (m : MC) (l : Nat), trC P n c = some m → (findLabel c l = none → findM m l = none) ∧ ∀ rest, findLabel c l = some rest → ∃ mr, findM m l = some mr ∧ trC P n rest = some mr := by
  intro c
  induction c with
  | seq a b iha ihb =>
    intro m l hm
    simp only [trC] at hm
    split at hm
    · rename_i x y h1 h2
      simp only [Option.some.injEq] at hm; subst hm
      obtain ⟨a1, a2⟩ := iha x l h1
      obtain ⟨b1, b2⟩ := ihb y l h2
      constructor
      · intro hf
        simp only [findLabel] at hf
        split at hf
        · cases hf
        · rename_i hfa
          simp only [findM, a1 hfa]; exact b1 hf
      · intro rest hf
        simp only [findLabel] at hf
        split at hf
        · rename_i r hfa
          simp only [Option.some.injEq] at hf; subst hf
          obtain ⟨mr, e1, e2⟩ := a2 r hfa
          exact ⟨.seq mr y, by simp [findM, e1], by simp [trC, e2, h2]⟩
        · rename_i hfa
          obtain ⟨mr, e1, e2⟩ := b2 rest hf
          exact ⟨mr, by simp [findM, a1 hfa, e1], e2⟩
    · cases hm
  | label l' =>
    intro m l hm
    simp only [trC, Option.some.injEq] at hm; subst hm
    simp only [findLabel, findM]
    split <;> simp [trC]
  | region i ops d =>
    intro m l hm
    obtain ⟨t, rfl⟩ : ∃ t, m = .reg t := by
      revert hm
      simp only [trC]
      cases dstOk n ops <;> cases d <;> cases Region.noSelect ops <;> simp <;> (intro t _ ht; exact ⟨t, ht.symm⟩)
    simp [findLabel, findM]
  | cond o a b =>
    intro m l hm
    simp only [trC] at hm
    split at hm
    · simp only [Option.some.injEq] at hm; subst hm; simp [findLabel, findM]
    · cases hm
  | block i b => intro m l hm; simp only [trC, Option.map_eq_some_iff] at hm; obtain ⟨t, _, rfl⟩ := hm; simp [findLabel, findM]
  | loop b => intro m l hm; simp only [trC, Option.map_eq_some_iff] at hm; obtain ⟨t, _, rfl⟩ := hm; simp [findLabel, findM]
  | scope b => intro m l hm; simp only [trC, Option.map_eq_some_iff] at hm; obtain ⟨t, _, rfl⟩ := hm; simp [findLabel, findM]
  | rangeFunc f ps as b => intro m l hm; cases hm
  | refuse y => intro m l hm; cases hm
  | _ => intro m l hm; simp only [trC, Option.some.injEq] at hm; subst hm; simp [findLabel, findM]

def jumpQ (c : Code) (J : Nat → Act → World → Prop) (Q : Exit → Act → World → Prop) : Exit → Act → World → Prop
  | .goto l, a, w => (findLabel c l ≠ none ∧ J l a w) ∨ (findLabel c l = none ∧ Q (.goto l) a w)
  | x, a, w => Q x a w

theorem wp_scope_m {α : Type} {Q : Exit → Act → World → Prop} {c : Code} (I : α → Nat → Act → World → Prop) (μ : α → Nat) {a : Act} {w : World}
    (first : c.wp P (jumpQ c (fun l a w => ∃ y, I y l a w) Q) a w)
    (pass : ∀ x l rest a w, findLabel c l = some rest → I x l a w → rest.wp P (jumpQ c (fun l a w => ∃ y, μ y < μ x ∧ I y l a w) Q) a w) : (Code.scope c).wp P Q a w := by
  intro b k cs
  have hgo : ∀ l rest, findLabel c l = some rest → gotoIn l (.inScope c :: k) = some (.code rest :: .inScope c :: k) := by
    intro l rest hf; simp [gotoIn, hf]
  have hgn : ∀ l, findLabel c l = none → gotoIn l (.inScope c :: k) = gotoIn l k := by
    intro l hf; simp [gotoIn, hf]
  have key : ∀ n x l rest a w, μ x = n → findLabel c l = some rest → I x l a w → ∃ e a' w', Q e a' w' ∧ Arrives P (lone (b.at a (.code rest :: .inScope c :: k)) cs w) b k cs e a' w' := by
    intro n
    induction n using Nat.strongRecOn with
    | _ n ih =>
      intro x l rest a w hn hf hI
      obtain ⟨e, a₁, w₁, hq, harr⟩ := pass x l rest a w hf hI b (.inScope c :: k) cs
      cases e with
      | normal => exact ⟨.normal, a₁, w₁, hq, Steps.trans harr (.one step_inScope)⟩
      | exit id => exact ⟨.exit id, a₁, w₁, hq, fun k' hk => harr k' (by simp [exitTo, hk])⟩
      | goto l' =>
        rcases hq with ⟨hne, y, hlt, hy⟩ | ⟨hno, hq⟩
        · cases hf' : findLabel c l' with
          | none => exact absurd hf' hne
          | some rest' =>
            obtain ⟨e₂, a₂, w₂, hq₂, harr₂⟩ := ih (μ y) (hn ▸ hlt) y l' rest' a₁ w₁ rfl hf' hy
            exact ⟨e₂, a₂, w₂, hq₂, .of_steps (harr _ (hgo l' rest' hf')) harr₂⟩
        · exact ⟨.goto l', a₁, w₁, hq, fun k' hk => harr k' (by rw [hgn l' hno]; exact hk)⟩
      | ret => exact ⟨_, a₁, w₁, hq, harr⟩
      | panic ch => exact ⟨_, a₁, w₁, hq, harr⟩
      | outgrown => exact ⟨_, a₁, w₁, hq, harr⟩
  obtain ⟨e, a₁, w₁, hq, harr⟩ := first b (.inScope c :: k) cs
  cases e with
  | normal => exact ⟨.normal, a₁, w₁, hq, .head step_scope (Steps.trans harr (.one step_inScope))⟩
  | exit id => exact ⟨.exit id, a₁, w₁, hq, fun k' hk => .head step_scope (harr k' (by simp [exitTo, hk]))⟩
  | goto l' =>
    rcases hq with ⟨hne, y, hy⟩ | ⟨hno, hq⟩
    · cases hf' : findLabel c l' with
      | none => exact absurd hf' hne
      | some rest' =>
        obtain ⟨e₂, a₂, w₂, hq₂, harr₂⟩ := key _ y l' rest' a₁ w₁ rfl hf' hy
        exact ⟨e₂, a₂, w₂, hq₂, .of_steps (.head step_scope (harr _ (hgo l' rest' hf'))) harr₂⟩
    · exact ⟨.goto l', a₁, w₁, hq, fun k' hk => .head step_scope (harr k' (by rw [hgn l' hno]; exact hk))⟩
  | ret => exact ⟨_, a₁, w₁, hq, .of_steps (.one step_scope) harr⟩
  | panic ch => exact ⟨_, a₁, w₁, hq, .of_steps (.one step_scope) harr⟩
  | outgrown => exact ⟨_, a₁, w₁, hq, .of_steps (.one step_scope) harr⟩

theorem hm_scope {α : Type} {b : MC} (I : α → Nat → Env → PH → Prop) (μ : α → Nat)
    (first : HM P n gl b (scopeK b (fun l e h => ∃ y, I y l e h) K) e h)
    (pass : ∀ x l mr e h, findM b l = some mr → I x l e h → HM P n gl mr (scopeK b (fun l e h => ∃ y, μ y < μ x ∧ I y l e h) K) e h) : HM P n gl (.scope b) K e h := by
  rintro c hc a w ha rfl hg
  obtain ⟨b', rfl, hb⟩ := (tr_simple hc).2.2.2.2.2.2.2 b rfl
  have conv : ∀ (J : Nat → Env → PH → Prop) ex a w, exQ n gl (scopeK b J K) ex a w → jumpQ b' (fun l a w => ∃ e, Ag n e a ∧ okG gl w ∧ J l e (hw w)) (exQ n gl K) ex a w := by
    rintro J ex a w ⟨e, h1, h2, h3⟩
    cases ex with
    | goto l =>
      simp only [scopeK] at h3
      simp only [jumpQ]
      obtain ⟨t1, t2⟩ := tr_find b' b l hb
      rcases h3 with ⟨hne, hj⟩ | ⟨hno, hk⟩
      · refine .inl ⟨fun hh => hne (t1 hh), e, h1, h2, hj⟩
      · refine .inr ⟨?_, e, h1, h2, hk⟩
        cases hf : findLabel b' l with
        | none => rfl
        | some rest => obtain ⟨mr, e1, _⟩ := t2 rest hf; rw [hno] at e1; cases e1
    | _ => exact ⟨e, h1, h2, h3⟩
  have mono : ∀ (J J' : Nat → Act → World → Prop) ex a w, (∀ l a w, J l a w → J' l a w) → jumpQ b' J (exQ n gl K) ex a w → jumpQ b' J' (exQ n gl K) ex a w := by
    intro J J' ex a w hJ hx
    cases ex with
    | goto l => exact hx.imp (fun ⟨h1, h2⟩ => ⟨h1, hJ _ _ _ h2⟩) id
    | _ => exact hx
  refine wp_scope_m (fun x l a w => ∃ e, Ag n e a ∧ okG gl w ∧ I x l e (hw w)) μ ?_ ?_
  · refine wp_mono (first b' hb a w ha rfl hg) fun ex a w hx => mono _ _ ex a w ?_ (conv _ ex a w hx)
    rintro l a w ⟨e, h1, h2, y, h3⟩
    exact ⟨y, e, h1, h2, h3⟩
  · rintro x l rest a w hf ⟨e, h1, h2, h3⟩
    obtain ⟨mr, e1, e2⟩ := (tr_find b' b l hb).2 rest hf
    refine wp_mono (pass x l mr e _ e1 h3 rest e2 a w h1 rfl h2) fun ex a w hx => mono _ _ ex a w ?_ (conv _ ex a w hx)
    rintro l a w ⟨e, h1, h2, y, hlt, h3⟩
    exact ⟨y, hlt, e, h1, h2, h3⟩
end

/-! ### functions -/
abbrev MRes := Nat × Option (Option Nat)
structure MF where
  n : Nat
  res : List MRes
  body : MC
def trR (P : Program) : List ResultVar → Option (List MRes)
  | [] => some []
  | .tmp t :: r => (trR P r).map ((t, none) :: ·)
  | .cell a t :: r => match aggT P t, trR P r with
    | some k, some l => some ((a, some k) :: l)
    | _, _ => none
def trF (P : Program) (f : FuncId) : Option MF := match P.funcs[f]? with
  | some fn => match fn.body with
    | some c => match trC P fn.ntmps c, trR P fn.results.toList with
      | some m, some r => some ⟨fn.ntmps, r, m⟩
      | _, _ => none
    | none => none
  | none => none
def res1 (h : PH) (e : Env) : MRes → Option Value
  | (t, none) => e.get t
  | (a, some k) => match e.get a with
    | some (.pointer (some ⟨b, o, none⟩)) => match h b with
      | some (.cells c _ _) => atCells k c.toList o
      | _ => none
    | _ => none
def resV (h : PH) (e : Env) : List MRes → Option (List Value)
  | [] => some []
  | r :: rs => match res1 h e r, resV h e rs with
    | some v, some vs => some (v :: vs)
    | _, _ => none
def mkRes : List Value → Value
  | [v] => v
  | vs => .tuple vs.toArray
def retK (res : List MRes) (R : Value → PH → Prop) : Kx
  | .normal => fun e h => ∃ vs, resV h e res = some vs ∧ R (mkRes vs) h
  | .ret => fun e h => ∃ vs, resV h e res = some vs ∧ R (mkRes vs) h
  | _ => fun _ _ => False
def argEnv : Nat → List Value → Env
  | _, [] => []
  | i, v :: vs => (i, v) :: argEnv (i + 1) vs

section
variable {P : Program} {gl : Gl}

theorem argEnv_get : ∀ (vs : List Value) (i t : Nat) (v : Value), (argEnv i vs).get t = some v → i ≤ t ∧ vs[t - i]? = some v
  | [], i, t, v, h => by simp [argEnv, Env.get] at h
  | u :: vs, i, t, v, h => by
    simp only [argEnv, Env.get] at h
    cases hb : Nat.beq i t with
    | true =>
      rw [hb] at h
      simp only [cond_true, Option.some.injEq] at h
      have := Nat.eq_of_beq_eq_true hb
      subst this
      simp [h]
    | false =>
      rw [hb] at h
      obtain ⟨h1, h2⟩ := argEnv_get vs (i + 1) t v h
      refine ⟨by omega, ?_⟩
      rw [show t - i = (t - (i + 1)) + 1 from by omega, List.getElem?_cons_succ]
      exact h2

def resF (tmps : Array Value) : ResultVar → Sem Value
  | .tmp t => pure (tmps.getD t undef)
  | .cell x t => do loadVar t (← asAddr (tmps.getD x undef))
theorem results_resF (fn : Func) (tmps : Array Value) : results fn tmps = (do
    let vs ← fn.results.mapM (resF tmps)
    pure (if h : vs.size = 1 then vs[0] else .tuple vs)) := by
  unfold results
  congr 1

theorem run_res {n : Nat} {e : Env} {a : Act} (ha : Ag n e a) (w : World) : ∀ (rs : List ResultVar) (ms : List MRes) (vs : List Value), trR P rs = some ms → resV (hw w) e ms = some vs →
    (rs.mapM (resF a.tmps)).run P w = .ok vs w
  | [], ms, vs, h, hv => by
    simp only [trR, Option.some.injEq] at h; subst h
    simp only [resV, Option.some.injEq] at hv; subst hv
    simp
  | .tmp t :: rs, ms, vs, h, hv => by
    simp only [trR, Option.map_eq_some_iff] at h
    obtain ⟨ms', h', rfl⟩ := h
    simp only [resV, res1] at hv
    split at hv
    · rename_i v vs' h1 h2
      simp only [Option.some.injEq] at hv; subst hv
      have := ha.2.2 _ _ h1
      have ih := run_res ha w rs ms' vs' h' h2
      have e1 : (resF a.tmps (.tmp t)).run P w = .ok v w := by simp [resF, this]
      simp only [List.mapM_cons, Sem.run_bind, e1, Result.andThen_ok, ih, Sem.run_pure]
    · cases hv
  | .cell x t :: rs, ms, vs, h, hv => by
    simp only [trR] at h
    split at h
    · rename_i k l hk hl
      simp only [Option.some.injEq] at h; subst h
      simp only [resV, res1] at hv
      split at hv
      · rename_i v vs' h1 h2
        simp only [Option.some.injEq] at hv; subst hv
        split at h1
        · rename_i b o hp
          split at h1
          · rename_i c T fz hb
            have := ha.2.2 _ _ hp
            have ih := run_res ha w rs l vs' hl h2
            have hld := run_loadAgg (P := P) hk hb h1
            have e1 : (resF a.tmps (.cell x t)).run P w = .ok v w := by simp [resF, this, asAddr, hld]
            simp only [List.mapM_cons, Sem.run_bind, e1, Result.andThen_ok, ih, Sem.run_pure]
          · cases h1
        · cases h1
      · cases hv
    · cases h

theorem calls_of_HM {f : FuncId} {F : MF} {args : List Value} {w : World} {R : Value → PH → Prop} (hF : trF P f = some F) (hn : args.length ≤ F.n) (hg : okG gl w)
    (hm : HM P F.n gl F.body (retK F.res R) (argEnv 0 args) (hw w)) : callsR P f args.toArray w fun v w' => okG gl w' ∧ R v (hw w') := by
  unfold trF at hF
  split at hF
  · rename_i fn hfn
    split at hF
    · rename_i c hc
      split at hF
      · rename_i m r h1 h2
        simp only [Option.some.injEq] at hF; subst hF
        simp only at hn hm
        refine calls_of_wp hfn hc ?_
        have ha : Ag fn.ntmps (argEnv 0 args) { tmps := args.toArray ++ Array.replicate (fn.ntmps - args.toArray.size) undef, defers := [] } := by
          refine ⟨rfl, by simp; omega, fun t v ht => ?_⟩
          obtain ⟨_, h⟩ := argEnv_get args 0 t v ht
          simp only [Nat.sub_zero] at h
          have hlt := (List.getElem?_eq_some_iff.1 h).1
          rw [Array.getElem?_append_left (by simpa using hlt)]
          simpa using h
        refine wp_mono (hm c h1 _ w ha rfl hg) ?_
        have fin : ∀ a w e, Ag fn.ntmps e a → okG gl w → (∃ vs, resV (hw w) e r = some vs ∧ R (mkRes vs) (hw w)) →
            a.defers = [] ∧ ∃ v, (results fn a.tmps).run P w = .ok v w ∧ ∃ v', Ending.returned v = .returned v' ∧ okG gl w ∧ R v' (hw w) := by
          rintro a w e ha hg ⟨vs, hvs, hR⟩
          refine ⟨ha.1, mkRes vs, ?_, _, rfl, hg, hR⟩
          have := run_res ha w fn.results.toList r vs h2 hvs
          rw [results_resF]
          simp only [Sem.run_bind]
          have e1 : (fn.results.mapM (resF a.tmps)).run P w = .ok vs.toArray w := by
            rw [Array.mapM_eq_mapM_toList]
            simp only [Sem.run_map, this, Result.andThen_ok]
          rw [e1]
          simp only [Result.andThen_ok, Sem.run_pure]
          congr 1
          match vs with
          | [] => rfl
          | [v] => rfl
          | v :: u :: vs => rfl
        rintro ex a w ⟨e, h1, h2, h3⟩
        cases ex with
        | normal => exact fin a w e h1 h2 h3
        | ret => exact fin a w e h1 h2 h3
        | _ => exact h3.elim
      · cases hF
    · cases hF
  · cases hF
end
theorem retK_ret (res : List MRes) (R : Value → PH → Prop) : retK res R .ret = fun e h => ∃ vs, resV h e res = some vs ∧ R (mkRes vs) h := rfl
theorem retK_normal (res : List MRes) (R : Value → PH → Prop) : retK res R .normal = fun e h => ∃ vs, resV h e res = some vs ∧ R (mkRes vs) h := rfl
attribute [irreducible] retK
end Go.Dv
