import Derived.Test.YthcbefkgfhokoaaFwD
/- The rules of a walk. -/
namespace Go.Dv
open Go

def En (aa : List HP) (J : PH → Prop) : Prop := ∀ h, Sep aa h → J h
def Rk (pend : Pn) (D : Nat) (aa : List HP) : Prop := En aa (Pnd pend D)

section
variable {P : Program} {gl : Gl} {n : Nat} {aa r : List HP} {J : PH → Prop} {e : Env} {K : Kx} {k : Env → PH → Prop}

/-! ### on any goal -/
theorem en_open {α : Type} {x : HP} {φ : α → Prop} {ys : α → List HP} (o : ∀ h, x h → ∃ y, φ y ∧ Sep (ys y) h) (pk : Pk aa x r)
    (k : ∀ y, φ y → En (ys y ++ r) J) : En aa J := by
  intro h hs
  obtain ⟨h1, h2, d, u, hx, hr⟩ := pk.out hs
  obtain ⟨y, hφ, hy⟩ := o h1 hx
  refine k y hφ h (sep_flat (x := Sep (ys y)) (fun _ h => h) ⟨h1, h2, d, u, hy, hr⟩)
theorem en_fold {x : HP} {ys : List HP} (o : ∀ h, Sep ys h → x h) (sx : Sx aa ys r) (k : En (x :: r) J) : En aa J :=
  fun h hs => k h (sep_fold o (sx.out hs))
theorem en_sx {ys : List HP} (sx : Sx aa ys r) (k : En (ys ++ r) J) : En aa J := fun h hs => k h (sx.out hs)
theorem en_drop {x : HP} (pk : Pk aa x r) (k : En r J) : En aa J := fun h hs => by
  obtain ⟨h', h1, h2⟩ := sep_drop (pk.out hs)
  exact k h (sep_mono h1 h2)
theorem en_fact {x : HP} {φ : Prop} (f : ∀ h, x h → φ) (pk : Pk aa x r) (k : φ → En aa J) : En aa J := by
  intro h hs
  obtain ⟨h1, h2, d, u, hx, hr⟩ := pk.out hs
  exact k (f h1 hx) h hs
theorem en_ne {b b' : Nat} {T T' : TypeId} {cs cs' : List Value} (sx : Sx aa [Cl b T cs, Cl b' T' cs'] r) (k : b ≠ b' → En aa J) : En aa J :=
  fun h hs => k (Cl_ne (sx.out hs)) h hs

theorem en_i (k : ∀ h, Sep aa h → J h) : En aa J := k
theorem en_all (h : ∀ g, J g) : En aa J := fun g _ => h g

theorem en_emp {x : HP} (hx : x fun _ => none) (k : En (x :: aa) J) : En aa J := fun h hs => k h ⟨fun _ => none, h, fun _ => .inl rfl, fun b => by simp, hx, hs⟩

/-! ### code -/
theorem m_seq {x y : MC} (m : En aa (HM P n gl x (seqK (HM P n gl y K) K) e)) : En aa (HM P n gl (.seq x y) K e) := fun h hs => hm_seq (m h hs)
theorem m_reg {t : MT} (hm : P.follows .mixedOrders = true) (m : En aa (HTh P gl (K .normal) t [] 0 e)) : En aa (HM P n gl (.reg t) K e) := fun h hs => hm_reg hm (m h hs)
theorem m_block {i : Nat} {b : MC} (m : En aa (HM P n gl b (blockK i K) e)) : En aa (HM P n gl (.block i b) K e) := fun h hs => hm_block (m h hs)
theorem m_cond {o : Operand} {x y : MC} {b : Bool} (ho : ev e o = some (.bool b)) (h1 : b = true → En aa (HM P n gl x K e)) (h2 : b = false → En aa (HM P n gl y K e)) : En aa (HM P n gl (.cond o x y) K e) :=
  fun h hs => hm_cond ho (fun hb => h1 hb h hs) (fun hb => h2 hb h hs)
theorem m_ct {o : Operand} {x y : MC} (ho : ev e o = some (.bool true)) (h1 : En aa (HM P n gl x K e)) : En aa (HM P n gl (.cond o x y) K e) := m_cond ho (fun _ => h1) (fun h => by cases h)
theorem m_cf {o : Operand} {x y : MC} (ho : ev e o = some (.bool false)) (h1 : En aa (HM P n gl y K e)) : En aa (HM P n gl (.cond o x y) K e) := m_cond ho (fun h => by cases h) (fun _ => h1)
theorem m_skip (k : En aa (K .normal e)) : En aa (HM P n gl .skip K e) := fun h hs => hm_skip (k h hs)
theorem m_label {i : Nat} (k : En aa (K .normal e)) : En aa (HM P n gl (.label i) K e) := fun h hs => hm_label (k h hs)
theorem m_exit {i : Nat} (k : En aa (K (.exit i) e)) : En aa (HM P n gl (.exit i) K e) := fun h hs => hm_exit (k h hs)
theorem m_goto {i : Nat} (k : En aa (K (.goto i) e)) : En aa (HM P n gl (.goto i) K e) := fun h hs => hm_goto (k h hs)
theorem m_ret0 (k : En aa (K .ret e)) : En aa (HM P n gl .ret K e) := fun h hs => hm_ret (k h hs)
theorem m_loop {α : Type} {b : MC} (I : α → Env → List HP → Prop) (μ : α → Nat) (x0 : α) (h0 : I x0 e aa)
    (round : ∀ x e aa, I x e aa → En aa (HM P n gl b (seqK (fun e' h' => ∃ y aa', μ y < μ x ∧ I y e' aa' ∧ Sep aa' h') K) e)) : En aa (HM P n gl (.loop b) K e) := by
  intro h hs
  refine hm_loop (fun x e h => ∃ aa, I x e aa ∧ Sep aa h) μ x0 ⟨aa, h0, hs⟩ ?_
  rintro x e h ⟨aa, hI, hs⟩
  refine hm_mono ?_ (round x e aa hI h hs)
  intro ex e' h' hk
  cases ex with
  | normal => obtain ⟨y, aa', h1, h2, h3⟩ := hk; exact ⟨y, h1, aa', h2, h3⟩
  | _ => exact hk
theorem m_scope {α : Type} {b : MC} (I : α → Nat → Env → List HP → Prop) (μ : α → Nat)
    (first : En aa (HM P n gl b (scopeK b (fun l e h => ∃ y aa', I y l e aa' ∧ Sep aa' h) K) e))
    (pass : ∀ x l mr e aa, findM b l = some mr → I x l e aa → En aa (HM P n gl mr (scopeK b (fun l e h => ∃ y aa', μ y < μ x ∧ I y l e aa' ∧ Sep aa' h) K) e)) : En aa (HM P n gl (.scope b) K e) := by
  intro h hs
  have mono : ∀ (J J' : Nat → Env → PH → Prop), (∀ l e h, J l e h → J' l e h) → ∀ x e h, scopeK b J K x e h → scopeK b J' K x e h := by
    intro J J' hJ x e h hx
    cases x with
    | goto l => exact hx.imp (fun ⟨a, b⟩ => ⟨a, hJ _ _ _ b⟩) id
    | _ => exact hx
  refine hm_scope (fun x l e h => ∃ aa, I x l e aa ∧ Sep aa h) μ ?_ ?_
  · exact hm_mono (mono _ _ fun l e h ⟨y, aa', h1, h2⟩ => ⟨y, aa', h1, h2⟩) (first h hs)
  · rintro x l mr e h hf ⟨aa, hI, hs⟩
    exact hm_mono (mono _ _ fun l e h ⟨y, aa', h1, h2, h3⟩ => ⟨y, h1, aa', h2, h3⟩) (pass x l mr e aa hf hI h hs)

/-- what a region leaves that is read elsewhere -/
def selO (e : Env) : List Nat → Option Env
  | [] => some []
  | l :: ls => match e.get l, selO e ls with
    | some v, some r => some ((l, v) :: r)
    | none, some r => some r
    | _, none => none
theorem selO_get : ∀ {L : List Nat} {e e' : Env}, selO e L = some e' → ∀ t v, e'.get t = some v → e.get t = some v
  | [], e, e', h, t, v, hv => by simp only [selO, Option.some.injEq] at h; subst h; simp [Env.get] at hv
  | l :: L, e, e', h, t, v, hv => by
    simp only [selO] at h
    split at h
    · rename_i u r h1 h2
      simp only [Option.some.injEq] at h; subst h
      simp only [Env.get] at hv
      cases hb : Nat.beq l t with
      | true =>
        rw [hb] at hv
        simp only [cond_true, Option.some.injEq] at hv
        rw [← Nat.eq_of_beq_eq_true hb, h1, hv]
      | false => rw [hb] at hv; exact selO_get h2 t v hv
    · rename_i r h1 h2
      simp only [Option.some.injEq] at h; subst h
      exact selO_get h2 t v hv
    · cases h
theorem hm_less {m : MC} {e' : Env} {h : PH} (he : ∀ t v, e'.get t = some v → e.get t = some v) (hm : HM P n gl m K e' h) : HM P n gl m K e h :=
  fun c hc a w ha hh hg => hm c hc a w ⟨ha.1, ha.2.1, fun t v ht => ha.2.2 t v (he t v ht)⟩ hh hg
/-! ### where ways meet again -/
def Meet {α : Type} (E : α → Env) (A : α → List HP) (φ : α → Prop) : Env → PH → Prop := fun e h => ∃ z, φ z ∧ Env.le (E z) e ∧ Sep (A z) h
theorem m_cut {x y : MC} {α : Type} (E : α → Env) (A : α → List HP) (φ : α → Prop) (m1 : En aa (HM P n gl x (seqK (Meet E A φ) K) e)) (m2 : ∀ z, φ z → En (A z) (HM P n gl y K (E z))) : En aa (HM P n gl (.seq x y) K e) := by
  intro h hs
  refine hm_seq (hm_mono ?_ (m1 h hs))
  intro ex e' h' hk
  cases ex with
  | normal => obtain ⟨z, h1, h2, h3⟩ := hk; exact hm_less h2 (m2 z h1 h' h3)
  | _ => exact hk
theorem t_meet {α : Type} {E : α → Env} {A : α → List HP} {φ : α → Prop} {pend : Pn} {D : Nat} (hk : k = Meet E A φ) (z : α) (h1 : φ z) (L : List Nat) (h2 : selO e L = some (E z)) (sx : Sx aa (A z) r) : En aa (HTh P gl k .done pend D e) :=
  fun h hs => ⟨e, Env.le_refl e, by rw [hk]; exact ⟨z, h1, selO_get h2, sep_left (sx.out hs)⟩⟩
theorem m_meet {α : Type} {E : α → Env} {A : α → List HP} {φ : α → Prop} (hk : K .normal = Meet E A φ) (z : α) (h1 : φ z) (L : List Nat) (h2 : selO e L = some (E z)) (sx : Sx aa (A z) r) : En aa (HM P n gl .skip K e) :=
  m_skip fun h hs => by rw [hk]; exact ⟨z, h1, selO_get h2, sep_left (sx.out hs)⟩

/-! ### regions -/
theorem t_end {pend : Pn} {D : Nat} (m : En aa (k e)) : En aa (HTh P gl k .done pend D e) := fun h hs => ⟨e, Env.le_refl e, m h hs⟩
theorem t_next {pend : Pn} {D : Nat} {y : MC} (hk : k = HM P n gl y K) (m : En aa (HM P n gl y K e)) : En aa (HTh P gl k .done pend D e) := by subst hk; exact fun h hs => ⟨e, Env.le_refl e, m h hs⟩
theorem t_nx {pend : Pn} {D : Nat} {y : MC} {e' : Env} (L : List Nat) (hk : k = HM P n gl y K) (he : selO e L = some e') (m : En aa (HM P n gl y K e')) : En aa (HTh P gl k .done pend D e) := by
  subst hk
  exact fun h hs => ⟨e', selO_get he, m h hs⟩
theorem rv_of_pv {x : MX} {v : Value} {h : PH} (hv : pv e x = some v) : RV P h e x v := by
  cases x <;> first
    | exact hv
    | (simp [pv] at hv)
theorem t_p {d : Nat} {g : Option (Nat × Bool)} {x : MX} {t : MT} {pend : Pn} {D : Nat} {v : Value} (hg : gdv e g = some true) (hv : pv e x = some v) (m : En aa (HTh P gl k t pend D ((d, v) :: e))) :
    En aa (HTh P gl k (.rd (some d) g none x t) pend D e) := fun h hs => ⟨e, Env.le_refl e, .inl ⟨hg, v, rv_of_pv hv, m h hs⟩⟩
/-- all that hangs on the operands alone, at one blow -/
inductive RR where
  | mk (t : MT) (e : Env)
  | bad
def runP : MT → Env → RR
  | .rd (some d) none none x t, e => match pv e x with
    | some v => runP t ((d, v) :: e)
    | none => .mk (.rd (some d) none none x t) e
  | t, e => .mk t e
def runQ : MT → Env → RR
  | .rd (some d) none none x t, e => match pv e x with
    | some v => runP t ((d, v) :: e)
    | none => .bad
  | _, _ => .bad
theorem runP_sound {pend : Pn} {D : Nat} : ∀ (t : MT) (e : Env) (t' : MT) (e' : Env) (h : PH), runP t e = .mk t' e' → HTh P gl k t' pend D e' h → HTh P gl k t pend D e h := by
  intro t
  induction t with
  | rd d g m x t ih =>
    intro e t' e' h hr hh
    cases d with
    | none => simp only [runP, RR.mk.injEq] at hr; obtain ⟨rfl, rfl⟩ := hr; exact hh
    | some d =>
      cases g with
      | some g => simp only [runP, RR.mk.injEq] at hr; obtain ⟨rfl, rfl⟩ := hr; exact hh
      | none =>
        cases m with
        | some m => simp only [runP, RR.mk.injEq] at hr; obtain ⟨rfl, rfl⟩ := hr; exact hh
        | none =>
          simp only [runP] at hr
          split at hr
          · rename_i v hv
            exact ⟨e, Env.le_refl e, .inl ⟨rfl, v, rv_of_pv hv, ih _ _ _ _ hr hh⟩⟩
          · simp only [RR.mk.injEq] at hr; obtain ⟨rfl, rfl⟩ := hr; exact hh
  | _ => intro e t' e' h hr hh; simp only [runP, RR.mk.injEq] at hr; obtain ⟨rfl, rfl⟩ := hr; exact hh
theorem t_run {t t' : MT} {pend : Pn} {D : Nat} {d : Nat} {x : MX} {e' : Env} (hr : runQ (.rd (some d) none none x t) e = .mk t' e') (m : En aa (HTh P gl k t' pend D e')) : En aa (HTh P gl k (.rd (some d) none none x t) pend D e) := by
  intro h hs
  simp only [runQ] at hr
  split at hr
  · rename_i v hv
    exact ⟨e, Env.le_refl e, .inl ⟨rfl, v, rv_of_pv hv, runP_sound _ _ _ _ _ hr (m h hs)⟩⟩
  · cases hr
/-- by what a place holds, true or false -/
theorem t_spl {t : MT} {pend : Pn} {D : Nat} {b : Bool} (s : Nat) (hs : e.get s = some (.bool b)) (h1 : b = true → En aa (HTh P gl k t pend D ((s, .bool true) :: e))) (h2 : b = false → En aa (HTh P gl k t pend D ((s, .bool false) :: e))) :
    En aa (HTh P gl k t pend D e) := by
  have key : Env.le ((s, .bool b) :: e) e := by
    intro t v h
    simp only [Env.get] at h
    cases hq : Nat.beq s t with
    | true => rw [hq] at h; simp only [cond_true, Option.some.injEq] at h; rw [← Nat.eq_of_beq_eq_true hq, hs, h]
    | false => rw [hq] at h; exact h
  intro h hh
  cases b with
  | true => exact HTh_mono key (h1 rfl h hh)
  | false => exact HTh_mono key (h2 rfl h hh)
theorem t_c {d : Nat} {g : Option (Nat × Bool)} {x : MX} {t : MT} {pend : Pn} {D : Nat} {v : Value} (hg : gdv e g = some true) (hv : ∀ h, RV P h e x v) (m : En aa (HTh P gl k t pend D ((d, v) :: e))) :
    En aa (HTh P gl k (.rd (some d) g none x t) pend D e) := fun h hs => ⟨e, Env.le_refl e, .inl ⟨hg, v, hv h, m h hs⟩⟩
theorem t_r {d : Nat} {g : Option (Nat × Bool)} {x : MX} {t : MT} {pend : Pn} {D : Nat} {v : Value} {o : Option Nat} (hg : gdv e g = some true) (hv : En aa (fun h => RV P h e x v)) (m : En aa (HTh P gl k t (remember P o e x v pend) D ((d, v) :: e))) :
    En aa (HTh P gl k (.rd (some d) g o x t) pend D e) := fun h hs => ⟨e, Env.le_refl e, .inl ⟨hg, v, hv h hs, m h hs⟩⟩
theorem ld_rv {x : Operand} {c : Option Nat} {b o : Nat} {T : TypeId} {cs : List Value} {v : Value} (hx : ev e x = some (.pointer (some ⟨b, o, none⟩))) (pk : Pk aa (Cl b T cs) r) (hv : atCells c cs o = some v) :
    En aa (fun h => RV P h e (.ld c x) v) := by
  intro h hs
  have := Cl_get (pk.out hs)
  simp [RV, rv, hx, this, hv]
theorem t_ld {d : Nat} {g : Option (Nat × Bool)} {x : Operand} {c : Option Nat} {t : MT} {pend : Pn} {D : Nat} {v : Value} {o : Option Nat} {b f : Nat} {T : TypeId} {cs : List Value} (hg : gdv e g = some true)
    (hx : ev e x = some (.pointer (some ⟨b, f, none⟩))) (pk : Pk aa (Cl b T cs) r) (hv : atCells c cs f = some v) (m : En aa (HTh P gl k t (remember P o e (.ld c x) v pend) D ((d, v) :: e))) :
    En aa (HTh P gl k (.rd (some d) g o (.ld c x) t) pend D e) := t_r hg (ld_rv hx pk hv) m
theorem t_gr {d : Nat} {g : Option (Nat × Bool)} {x : MX} {t : MT} {pend : Pn} {D : Nat} {o : Option Nat} (hg : gdv e g = some false) (m : En aa (HTh P gl k t pend D ((d, undef) :: e))) :
    En aa (HTh P gl k (.rd (some d) g o x t) pend D e) := fun h hs => ⟨e, Env.le_refl e, .inr ⟨hg, m h hs⟩⟩
theorem t_ge {d : Option Nat} {g : Option (Nat × Bool)} {x : MX} {t : MT} {pend : Pn} {D i : Nat} (hg : gdv e g = some false) (m : En aa (HTh P gl k t pend (D ||| 2 ^ i) (put e d undef))) :
    En aa (HTh P gl k (.ef d g i x t) pend D e) := fun h hs => ⟨e, Env.le_refl e, .inr ⟨hg, m h hs⟩⟩
theorem t_alt {a b : MT} {pend : Pn} {D : Nat} (m1 : En aa (HTh P gl k a pend D e)) (m2 : En aa (HTh P gl k b pend D e)) : En aa (HTh P gl k (.alt a b) pend D e) := fun h hs => ⟨m1 h hs, m2 h hs⟩

theorem rk_nil {D : Nat} : Rk [] D aa := fun _ _ => trivial
theorem rk_skip {D m : Nat} {T : PH → Prop} {pend : Pn} (hm : (m &&& D == 0) = false) (h : Rk pend D aa) : Rk ((m, T) :: pend) D aa :=
  fun g hs => ⟨fun hz => by simp [hz] at hm, h g hs⟩
theorem rk_r {D m : Nat} {T : PH → Prop} {pend : Pn} (hT : En aa T) (h : Rk pend D aa) : Rk ((m, T) :: pend) D aa := fun g hs => ⟨fun _ => hT g hs, h g hs⟩
theorem rk_ld {D m : Nat} {x : Operand} {c : Option Nat} {v : Value} {pend : Pn} {b f : Nat} {T : TypeId} {cs : List Value}
    (hx : ev e x = some (.pointer (some ⟨b, f, none⟩))) (pk : Pk aa (Cl b T cs) r) (hv : atCells c cs f = some v) (h : Rk pend D aa) : Rk ((m, fun h => RV P h e (.ld c x) v) :: pend) D aa :=
  rk_r (ld_rv hx pk hv) h

/-- what turns the world, by what it does -/
theorem t_ef {d : Option Nat} {g : Option (Nat × Bool)} {x : MX} {t : MT} {pend : Pn} {D i : Nat} {R : Value → List HP → Prop} (hg : gdv e g = some true)
    (hx : ∀ w, Sep aa (hw w) → okG gl w → ∀ R' : Value → World → Prop, (∀ v w' aa', R v aa' → okG gl w' → Sep aa' (hw w') → R' v w') → efX P e x w R')
    (m : ∀ v aa', R v aa' → Rk pend (D ||| 2 ^ i) aa' ∧ En aa' (HTh P gl k t pend (D ||| 2 ^ i) (put e d v))) :
    En aa (HTh P gl k (.ef d g i x t) pend D e) := by
  intro h hs
  refine ⟨e, Env.le_refl e, .inl ⟨hg, fun w hh hG => ?_⟩⟩
  subst hh
  refine hx w hs hG _ fun v w' aa' hR hG' hs' => ?_
  obtain ⟨m1, m2⟩ := m v aa' hR
  exact ⟨hG', m1 _ hs', m2 _ hs'⟩

theorem hw_setRow {w : World} {b : Nat} {c cs : Array Value} {T : TypeId} {fz : Nat × Nat} (hb : hw w b = some (.cells c T fz)) : hw (w.setRow b cs) b = some (.cells cs T fz) := setRow_heap w b c cs T fz hb
theorem hw_setRow_ne {w : World} {b k : Nat} {cs : Array Value} (h : k ≠ b) : hw (w.setRow b cs) k = hw w k := by
  unfold hw World.setRow
  simp only
  rw [Array.getElem?_modify]
  simp [Ne.symm h]
theorem hw_alloc {w : World} {o : Obj} : hw (w.alloc o) w.heap.size = some o := by unfold hw World.alloc; simp
theorem hw_alloc_ne {w : World} {o : Obj} {k : Nat} (h : k ≠ w.heap.size) : hw (w.alloc o) k = hw w k := by
  unfold hw World.alloc
  simp only [Array.getElem?_push]
  split
  · rename_i hk; exact absurd hk h
  · rfl
theorem hw_top {w : World} : hw w w.heap.size = none := by simp [hw]

theorem t_st {d : Option Nat} {g : Option (Nat × Bool)} {x y : Operand} {z : Nat} {t : MT} {pend : Pn} {D i : Nat} {b f : Nat} {T : TypeId} {cs us : List Value} {u : Value} (hg : gdv e g = some true)
    (hx : ev e x = some (.pointer (some ⟨b, f, none⟩))) (hy : ev e y = some u) (pk : Pk aa (Cl b T cs) r) (hu : u.cells.toList = us) (hl : us.length = z) (hb : f + z ≤ cs.length) (h1 : us.all Value.oneCell' = true)
    (hr : Rk pend (D ||| 2 ^ i) (Cl b T (splice cs f us) :: r)) (m : En (Cl b T (splice cs f us) :: r) (HTh P gl k t pend (D ||| 2 ^ i) (put e d undef))) :
    En aa (HTh P gl k (.ef d g i (.st z x y) t) pend D e) := by
  refine t_ef (R := fun v aa' => v = undef ∧ aa' = Cl b T (splice cs f us) :: r) hg ?_ (by rintro v aa' ⟨rfl, rfl⟩; exact ⟨hr, m⟩)
  intro w hs hG R' hR'
  have hs' := pk.out hs
  have hc := Cl_get hs'
  simp only [efX, hx, hy]
  refine ⟨cs.toArray, T, hc, by rw [hu]; exact hl, by simpa using hb, by rw [hu]; exact h1, ?_⟩
  refine hR' _ _ _ ⟨rfl, rfl⟩ ⟨hG.1, hG.2⟩ ?_
  rw [hu]
  exact Cl_set hs' (hw_setRow hc) fun k hk => hw_setRow_ne hk

theorem t_al {d : Option Nat} {g : Option (Nat × Bool)} {t : MT} {pend : Pn} {D i : Nat} {T : TypeId} {cs : List Value} (hg : gdv e g = some true)
    (m : ∀ b, Rk pend (D ||| 2 ^ i) (Cl b T cs :: aa) ∧ En (Cl b T cs :: aa) (HTh P gl k t pend (D ||| 2 ^ i) (put e d (.pointer (some ⟨b, 0, none⟩))))) :
    En aa (HTh P gl k (.ef d g i (.al T cs) t) pend D e) := by
  refine t_ef (R := fun v aa' => ∃ b, v = .pointer (some ⟨b, 0, none⟩) ∧ aa' = Cl b T cs :: aa) hg ?_ (by rintro v aa' ⟨b, rfl, rfl⟩; exact m b)
  intro w hs hG R' hR'
  simp only [efX]
  refine hR' _ _ _ ⟨_, rfl, rfl⟩ ⟨hG.1, hG.2⟩ ?_
  exact sep_new hs hw_top hw_alloc (fun k hk => hw_alloc_ne hk) (by simp [Cl])
theorem t_bx {d : Option Nat} {g : Option (Nat × Bool)} {t : MT} {pend : Pn} {D i z : Nat} {T : TypeId} {y : Operand} {u : Value} {cs : List Value} (hg : gdv e g = some true) (hy : ev e y = some u) (hu : u.cells.toList = cs)
    (m : ∀ b, Rk pend (D ||| 2 ^ i) (Cl b T cs :: aa) ∧ En (Cl b T cs :: aa) (HTh P gl k t pend (D ||| 2 ^ i) (put e d (.pointer (some ⟨b, 0, none⟩))))) :
    En aa (HTh P gl k (.ef d g i (.bx T z y) t) pend D e) := by
  refine t_ef (R := fun v aa' => ∃ b, v = .pointer (some ⟨b, 0, none⟩) ∧ aa' = Cl b T cs :: aa) hg ?_ (by rintro v aa' ⟨b, rfl, rfl⟩; exact m b)
  intro w hs hG R' hR'
  simp only [efX, hy]
  refine ⟨trivial, hR' _ _ _ ⟨_, rfl, rfl⟩ ⟨hG.1, hG.2⟩ ?_⟩
  exact sep_new hs hw_top hw_alloc (fun k hk => hw_alloc_ne hk) (by simp [Cl, ← hu])

/-! ### functions -/
def Fsp (P : Program) (f : FuncId) (args : List Value) (pre : List HP) (post : Value → List HP → Prop) : Prop :=
  ∀ (gl : Gl) (F : HP) (w : World), okG gl w → Sep (pre ++ [F]) (hw w) → callsR P f args.toArray w fun v w' => okG gl w' ∧ ∃ aa', post v aa' ∧ Sep (aa' ++ [F]) (hw w')

def PostJ (post : Value → List HP → Prop) (X : HP) (v : Value) (h : PH) : Prop := ∃ aa', post v aa' ∧ Sep (aa' ++ [X]) h

theorem spec_of {f : FuncId} {n : Nat} {res : List MRes} {m : MC} {args : List Value} {pre : List HP} {post : Value → List HP → Prop} (hF : trF P f = some ⟨n, res, m⟩) (hn : Nat.ble args.length n = true)
    (m : ∀ gl X, En (pre ++ [X]) (HM P n gl m (retK res (PostJ post X)) (argEnv 0 args))) : Fsp P f args pre post :=
  fun gl X _ hg hs => calls_of_HM hF (Nat.le_of_ble_eq_true hn) hg (m gl X _ hs)

theorem m_ret {res : List MRes} {X : HP} {post : Value → List HP → Prop} {vs : List Value} {aa' : List HP} (hk : K .ret = retK res (PostJ post X) .ret)
    (hr : En aa (fun h => resV h e res = some vs)) (hp : post (mkRes vs) aa') (sx : Sx aa (aa' ++ [X]) r) : En aa (HM P n gl .ret K e) :=
  m_ret0 fun h hs => by rw [hk, retK_ret]; exact ⟨vs, hr h hs, aa', hp, sep_left (sx.out hs)⟩
theorem t_ret {res : List MRes} {X : HP} {post : Value → List HP → Prop} {vs : List Value} {aa' : List HP} {pend : Pn} {D : Nat} (hk : k = retK res (PostJ post X) .normal)
    (hr : En aa (fun h => resV h e res = some vs)) (hp : post (mkRes vs) aa') (sx : Sx aa (aa' ++ [X]) r) : En aa (HTh P gl k .done pend D e) :=
  fun h hs => by rw [hk, retK_normal]; exact ⟨e, Env.le_refl e, vs, hr h hs, aa', hp, sep_left (sx.out hs)⟩

theorem rs_nil : En aa (fun h => resV h e [] = some []) := fun _ _ => rfl
theorem rs_tmp {t : Nat} {v : Value} {rs : List MRes} {vs : List Value} (h1 : e.get t = some v) (h2 : En aa (fun h => resV h e rs = some vs)) : En aa (fun h => resV h e ((t, none) :: rs) = some (v :: vs)) :=
  fun h hs => by simp [resV, res1, h1, h2 h hs]
theorem rs_cell {t b o : Nat} {c : Option Nat} {T : TypeId} {cs : List Value} {v : Value} {rs : List MRes} {vs : List Value} (h1 : e.get t = some (.pointer (some ⟨b, o, none⟩))) (pk : Pk aa (Cl b T cs) r) (hv : atCells c cs o = some v)
    (h2 : En aa (fun h => resV h e rs = some vs)) : En aa (fun h => resV h e ((t, some c) :: rs) = some (v :: vs)) :=
  fun h hs => by simp [resV, res1, h1, Cl_get (pk.out hs), hv, h2 h hs]

/-! ### a part of a whole -/
def Wand (x y : HP) : HP := fun h => ∀ h1 h2 : PH, (∀ b, h1 b = none ∨ h b = none) → (∀ b, h2 b = (h1 b).or (h b)) → x h1 → y h2
theorem wand_mk {x y : HP} {ys : List HP} (o : ∀ h, Sep (x :: ys) h → y h) : ∀ h, Sep ys h → Wand x y h :=
  fun h hs h1 h2 d u hx => o h2 ⟨h1, h, d, u, hx, hs⟩
theorem wand_use {x y : HP} {l : List HP} {h : PH} (hs : Sep (Wand x y :: x :: l) h) : Sep (y :: l) h := by
  obtain ⟨h1, h2, d, u, hw, h3, h4, d', u', hx, hl⟩ := hs
  refine ⟨fun b => (h3 b).or (h1 b), h4, fun b => ?_, fun b => ?_, hw h3 _ (fun b => ?_) (fun _ => rfl) hx, hl⟩
  · have a1 := d b; have a2 := d' b; rw [u' b] at a1
    cases e1 : h1 b <;> cases e3 : h3 b <;> cases e4 : h4 b <;> simp_all
  · have a1 := d b; have a2 := d' b; rw [u' b] at a1; rw [u b, u' b]
    show (h1 b).or ((h3 b).or (h4 b)) = ((h3 b).or (h1 b)).or (h4 b)
    cases e1 : h1 b <;> cases e3 : h3 b <;> cases e4 : h4 b <;> simp_all
  · have a1 := d b; rw [u' b] at a1
    cases e1 : h1 b <;> cases e3 : h3 b <;> simp_all
theorem en_wand {x y : HP} (sx : Sx aa [Wand x y, x] r) (m : En (y :: r) J) : En aa J := fun h hs => m h (wand_use (sx.out hs))
theorem m_less {m : MC} {e' : Env} (he : Env.le e' e) (hm : En aa (HM P n gl m K e')) : En aa (HM P n gl m K e) := fun h hs => hm_less he (hm h hs)
theorem m_gto {l : Nat} {b : MC} {J : Nat → Env → PH → Prop} {K0 : Kx} (hk : K (.goto l) = scopeK b J K0 (.goto l)) (hf : (findM b l).isSome = true) (hJ : En aa (J l e)) : En aa (HM P n gl (.goto l) K e) := by
  refine m_goto ?_
  rw [hk]
  exact fun h hs => .inl ⟨(by intro hn; rw [hn] at hf; cases hf), hJ h hs⟩

theorem calls_frame {f : FuncId} {vs : List Value} {pre : List HP} {post : Value → List HP → Prop} (S : Fsp P f vs pre post) (sx : Sx aa pre r) {w : World} (hs : Sep aa (hw w)) (hG : okG gl w) {R' : Value → World → Prop}
    (hR : ∀ v w' aa', post v aa' → okG gl w' → Sep (aa' ++ r) (hw w') → R' v w') : callsR P f vs.toArray w R' := by
  refine Calls.mono (S gl (Sep r) w hG (sep_app_one (sx.out hs))) ?_
  rintro x w' ⟨v, rfl, hG', aa', hp, hs'⟩
  exact ⟨v, rfl, hR v w' aa' hp hG' (sep_one_app hs')⟩

theorem t_cl {d : Option Nat} {g : Option (Nat × Bool)} {t : MT} {pend : Pn} {D i : Nat} {f : FuncId} {args : List Operand} {vs : List Value} {pre : List HP} {post : Value → List HP → Prop} (hg : gdv e g = some true)
    (hv : evs e args = some vs) (S : Fsp P f vs pre post) (sx : Sx aa pre r)
    (m : ∀ v aa', post v aa' → Rk pend (D ||| 2 ^ i) (aa' ++ r) ∧ En (aa' ++ r) (HTh P gl k t pend (D ||| 2 ^ i) (put e d v))) :
    En aa (HTh P gl k (.ef d g i (.cl f args) t) pend D e) := by
  refine t_ef (R := fun v aa'' => ∃ aa', post v aa' ∧ aa'' = aa' ++ r) hg ?_ (by rintro v _ ⟨aa', hp, rfl⟩; exact m v aa' hp)
  intro w hs hG R' hR'
  simp only [efX, hv]
  exact calls_frame S sx hs hG fun v w' aa' hp hG' hs' => hR' _ _ _ ⟨aa', hp, rfl⟩ hG' hs'
theorem t_cv {d : Option Nat} {g : Option (Nat × Bool)} {t : MT} {pend : Pn} {D i : Nat} {f : FuncId} {x : Operand} {args : List Operand} {first captured : Array Value} {us vs : List Value} {pre : List HP} {post : Value → List HP → Prop} (hg : gdv e g = some true)
    (hx : ev e x = some (.func (.func f) first captured)) (hv : evs e args = some us) (hvs : first.toList ++ us ++ captured.toList = vs) (hb : Bd P f) (S : Fsp P f vs pre post) (sx : Sx aa pre r)
    (m : ∀ v aa', post v aa' → Rk pend (D ||| 2 ^ i) (aa' ++ r) ∧ En (aa' ++ r) (HTh P gl k t pend (D ||| 2 ^ i) (put e d v))) :
    En aa (HTh P gl k (.ef d g i (.cv x args) t) pend D e) := by
  refine t_ef (R := fun v aa'' => ∃ aa', post v aa' ∧ aa'' = aa' ++ r) hg ?_ (by rintro v _ ⟨aa', hp, rfl⟩; exact m v aa' hp)
  intro w hs hG R' hR'
  simp only [efX, hx, hv]
  refine ⟨hb, ?_⟩
  have : first ++ us.toArray ++ captured = vs.toArray := by
    apply Array.ext'; simpa using hvs
  rw [this]
  exact calls_frame S sx hs hG fun v w' aa' hp hG' hs' => hR' _ _ _ ⟨aa', hp, rfl⟩ hG' hs'
theorem m_skn {y : MC} {K2 : Kx} (hk : K .normal = HM P n gl y K2) (m : En aa (HM P n gl y K2 e)) : En aa (HM P n gl .skip K e) := m_skip (by rw [hk]; exact m)
theorem m_exn {i : Nat} {y : MC} {K2 : Kx} (hk : K (.exit i) = HM P n gl y K2) (m : En aa (HM P n gl y K2 e)) : En aa (HM P n gl (.exit i) K e) := m_exit (by rw [hk]; exact m)
theorem m_lbn {i : Nat} {y : MC} {K2 : Kx} (hk : K .normal = HM P n gl y K2) (m : En aa (HM P n gl y K2 e)) : En aa (HM P n gl (.label i) K e) := m_label (by rw [hk]; exact m)
end
end Go.Dv
