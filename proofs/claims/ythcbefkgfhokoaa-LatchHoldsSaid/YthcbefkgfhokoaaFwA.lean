import Derived.Test.YthcbefkgfhokoaaFw9
namespace Go.Dv
open Go
section
variable {P : Program} {gl : Gl} {n : Nat} {ops : Array Oper}

def endQ (n : Nat) (gl : Gl) (K : Env → PH → Prop) : Exit → Act → World → Prop
  | .normal, a, w => ∃ e, Ag n e a ∧ okG gl w ∧ K e (hw w)
  | _, _, _ => False

theorem seq_sound {K : Env → PH → Prop} (hd : dstOk n ops = true) : ∀ (l : List Nat) (t : MT) (D : Nat) (e : Env) (a : Act) (w : World), seqT P ops l = some t →
    HTh P gl K t [] D e (hw w) → Ag n e a → okG gl w → wpOps P ops (endQ n gl K) l a w
  | [], t, D, e, a, w, h, hT, ha, hg => by
    simp only [seqT, Option.some.injEq] at h; subst h
    obtain ⟨e0, hle, hK⟩ := hT
    exact ⟨e0, ha.le hle, hg, hK⟩
  | i :: l, t, D, e, a, w, h, hT, ha, hg => by
    simp only [seqT] at h
    split at h
    · rename_i o ho
      split at h
      · rename_i g t' hgs ht'
        simp only [Option.some.injEq] at h
        simp only [wpOps, ho]
        have hdo := dstOk_spec hd ho
        cases heff : isEff (trX P o) with
        | true =>
          rw [heff] at h; simp only [cond_true] at h; subst h
          simp only [HTh] at hT
          obtain ⟨e0, hle, hT⟩ := hT
          replace ha := ha.le hle
          rcases hT with ⟨hgv, hT⟩ | ⟨hgv, hT⟩
          · rw [wanted_of ha hgs hgv]
            simp only [if_true]
            refine .inl (run_efX (hT w rfl hg) ha.agr ?_)
            rintro v w' ⟨hg', _, hT'⟩
            exact seq_sound hd l t' _ _ _ w' ht' hT' (ha.put hdo) hg'
          · rw [wanted_of ha hgs hgv]
            simp only [Bool.false_eq_true, if_false]
            exact seq_sound hd l t' _ _ _ w ht' hT (ha.put hdo) hg
        | false =>
          rw [heff] at h; simp only [cond_false] at h; subst h
          simp only [HTh, remember] at hT
          obtain ⟨e0, hle, hT⟩ := hT
          replace ha := ha.le hle
          rcases hT with ⟨hgv, v, hR, hT⟩ | ⟨hgv, hT⟩
          · rw [wanted_of ha hgs hgv]
            simp only [if_true]
            refine .inl ?_
            unfold Oper.wp
            rw [RV_run hR ha.agr]
            exact seq_sound hd l t' _ _ _ w ht' hT (ha.put hdo) hg
          · rw [wanted_of ha hgs hgv]
            simp only [Bool.false_eq_true, if_false]
            exact seq_sound hd l t' _ _ _ w ht' hT (ha.put hdo) hg
      · cases h
    · cases h

/-! ### regions that draw -/
def Sp (pend : Pn) (l : Array Bool) (w : World) : Prop := ∀ p ∈ pend, (∀ k, p.1.testBit k = true → l.getD k false = false) → p.2 (hw w)

theorem set_false {l : Array Bool} {i k : Nat} (h : (l.setIfInBounds i true).getD k false = false) : l.getD k false = false := by
  by_cases hik : i = k
  · subst hik
    rcases Nat.lt_or_ge i l.size with h' | h'
    · simp [h'] at h
    · simp [Array.getElem?_eq_none h']
  · rwa [getD_set_ne false hik] at h

theorem altL_all {K : Env → PH → Prop} {pend : Pn} {D : Nat} {e : Env} {h : PH} : ∀ (ts : List MT), ts ≠ [] → HTh P gl K (altL ts) pend D e h → ∀ t ∈ ts, HTh P gl K t pend D e h
  | [], hne, _, _, _ => absurd rfl hne
  | [t], _, hT, t', ht' => by
    simp only [List.mem_singleton] at ht'; subst ht'; exact hT
  | t :: u :: ts, _, hT, t', ht' => by
    simp only [altL, HTh] at hT
    rcases List.mem_cons.1 ht' with rfl | h
    · exact hT.1
    · exact altL_all (u :: ts) (by simp) hT.2 t' h

theorem mapM_mem {α β : Type} (f : α → Option β) : ∀ (l : List α) (r : List β), l.mapM f = some r → (l = [] ↔ r = []) ∧ ∀ x ∈ l, ∃ y ∈ r, f x = some y
  | [], r, h => by simp at h; subst h; simp
  | x :: l, r, h => by
    simp only [List.mapM_cons, Option.bind_eq_bind, Option.pure_def] at h
    cases hx : f x with
    | none => simp [hx] at h
    | some y =>
      cases hl : l.mapM f with
      | none => simp [hx, hl] at h
      | some ys =>
        simp [hx, hl] at h
        subst h
        obtain ⟨_, h2⟩ := mapM_mem f l ys hl
        refine ⟨by simp, fun z hz => ?_⟩
        rcases List.mem_cons.1 hz with rfl | hz
        · exact ⟨y, by simp, hx⟩
        · obtain ⟨u, hu, e⟩ := h2 z hz
          exact ⟨u, by simp [hu], e⟩

theorem okDep_spec {i m : Nat} (h : okDep ops i m = true) : ∀ j, m.testBit j = true → ∃ oj, ops[j]? = some oj ∧ ∃ e ∈ oj.after, Region.binds .any e = true ∧ (e.on = i ∨ m.testBit e.on = true) := by
  intro j hj
  unfold okDep at h
  rw [List.all_eq_true] at h
  have hlt : j ∈ List.range (m + 1).log2.succ := by
    rw [List.mem_range]
    have h1 : 2 ^ j ≤ m := Nat.ge_two_pow_of_testBit hj
    have h2 : m + 1 < 2 ^ ((m + 1).log2 + 1) := Nat.lt_log2_self
    have h3 : 2 ^ j < 2 ^ ((m + 1).log2 + 1) := by omega
    exact (Nat.pow_lt_pow_iff_right (by omega)).1 h3
  have := h j hlt
  rw [hj] at this
  simp only [Bool.not_true, Bool.false_or] at this
  split at this
  · rename_i o ho
    unfold hangs at this
    obtain ⟨e, he, hb⟩ := Array.any_eq_true'.1 this
    simp only [Bool.and_eq_true, Bool.or_eq_true, beq_iff_eq] at hb
    exact ⟨o, ho, e, he, hb.1, hb.2⟩
  · cases this

theorem Pnd_spec : ∀ {pend : Pn} {D : Nat} {h : PH}, Pnd pend D h → ∀ p ∈ pend, p.1 &&& D = 0 → p.2 h
  | (m, T) :: r, D, h, hp, p, hm, hz => by
    rcases List.mem_cons.1 hm with rfl | hm
    · exact hp.1 hz
    · exact Pnd_spec hp.2 p hm hz

theorem ready_lt {md : Region.Mode} {listed : Array Bool} {i : Nat} (h : i ∈ Region.ready md ops listed) : i < ops.size := by
  obtain ⟨_, o, ho, _⟩ := mem_ready.1 h
  exact (Array.getElem?_eq_some_iff.1 ho).1

theorem Sp_set {pend : Pn} (l : Array Bool) (k : Nat) (w : World) (h : Sp pend l w) : Sp pend (l.setIfInBounds k true) w :=
  fun p hp hk => h p hp fun j hj => set_false (hk j hj)

theorem Sp_back {pend : Pn} {E : Nat} {i : Nat} (hi : E.testBit i = false) (hE : ∀ p ∈ pend, ∀ k, p.1.testBit k = true → E.testBit k = true) (l : Array Bool) (w : World)
    (h : Sp pend (l.setIfInBounds i true) w) : Sp pend l w := by
  intro p hp hk
  refine h p hp fun k hkk => ?_
  have hik : i ≠ k := fun hh => by have := hE p hp k hkk; rw [← hh, hi] at this; cases this
  rw [getD_set_ne false hik]
  exact hk k hkk

theorem Sp_of_Pnd {pend : Pn} {D i : Nat} {l : Array Bool} {w : World} (hD : ∀ k, D.testBit k = true → l.getD k false = true) (hi : i < l.size)
    (h : Pnd pend (D ||| 2 ^ i) (hw w)) : Sp pend (l.setIfInBounds i true) w := by
  intro p hp hk
  refine Pnd_spec h p hp ?_
  refine Nat.eq_of_testBit_eq fun k => ?_
  rw [Nat.testBit_and, Nat.zero_testBit]
  cases hpk : p.1.testBit k with
  | false => rfl
  | true =>
    have hl := hk k hpk
    have hik : i ≠ k := by
      rintro rfl
      simp [hi] at hl
    have hDk : D.testBit k = false := by
      cases hDk : D.testBit k with
      | false => rfl
      | true =>
        have := hD k hDk
        rw [getD_set_ne false hik, this] at hl
        cases hl
    rw [Nat.testBit_or, hDk, Nat.testBit_two_pow]
    simp [hik]

theorem D_set {D i : Nat} {l : Array Bool} (hD : ∀ k, D.testBit k = true → l.getD k false = true) (hi : i < l.size) :
    ∀ k, (D ||| 2 ^ i).testBit k = true → (l.setIfInBounds i true).getD k false = true := by
  intro k hk
  rw [Nat.testBit_or, Nat.testBit_two_pow] at hk
  by_cases hik : i = k
  · subst hik; simp [hi]
  · simp [hik] at hk
    exact getD_set_true (hD k hk)

theorem RV_any {x : MX} {h h' : PH} {e : Env} {v : Value} (hm : isMem x = false) (hr : RV P h e x v) : RV P h' e x v := by
  cases x <;> simp only [isMem, reduceCtorEq] at hm <;> exact hr

/-- whatever hangs on i has not come -/
theorem dep_unlisted {listed : Array Bool} {i : Nat} (hil : listed.getD i false = false)
    (hcl : ∀ k j oj, ops[j]? = some oj → (∃ e ∈ oj.after, Region.binds .any e = true ∧ e.on = k) → listed.getD j false = true → listed.getD k false = true) :
    ∀ k, (depMask ops i).testBit k = true → listed.getD k false = false := by
  have key : ∀ (l : List (Oper × Nat)) (m : Nat), (∀ x ∈ l, ops[x.2]? = some x.1) → (∀ k, m.testBit k = true → listed.getD k false = false) →
      ∀ k, (l.foldl (fun m (x : Oper × Nat) => bif hangs i m x.1 then m ||| 2 ^ x.2 else m) m).testBit k = true → listed.getD k false = false := by
    intro l
    induction l with
    | nil => intro m _ hm k hk; exact hm k hk
    | cons x l ih =>
      intro m hx hm
      simp only [List.foldl_cons]
      refine ih _ (fun y hy => hx y (List.mem_cons_of_mem _ hy)) ?_
      intro k hk
      cases hh : hangs i m x.1 with
      | false => rw [hh] at hk; exact hm k hk
      | true =>
        rw [hh] at hk
        simp only [cond_true, Nat.testBit_or, Nat.testBit_two_pow, Bool.or_eq_true, decide_eq_true_eq] at hk
        rcases hk with hk | rfl
        · exact hm k hk
        · cases hl : listed.getD x.2 false with
          | false => rfl
          | true =>
            unfold hangs at hh
            obtain ⟨e, he, hb⟩ := Array.any_eq_true'.1 hh
            simp only [Bool.and_eq_true, Bool.or_eq_true, beq_iff_eq] at hb
            have := hcl e.on x.2 x.1 (hx x List.mem_cons_self) ⟨e, he, hb.1, rfl⟩ hl
            rcases hb.2 with h | h
            · rw [h, hil] at this; cases this
            · rw [hm _ h] at this; cases this
  refine key _ 0 ?_ (fun k hk => by simp at hk)
  intro x hx
  have := List.mem_zipIdx hx
  obtain ⟨_, h2, h3⟩ := this
  rw [h3]
  simp at h2 ⊢

theorem mkT_sound {K : Env → PH → Prop} {E : Nat} (hd : dstOk n ops = true) (hs : Region.noSelect ops = true) : ∀ (fuel : Nat) (listed : Array Bool) (t : MT) (pend : Pn) (D : Nat) (e : Env) (a : Act) (w : World),
    mkT P ops E fuel listed = some t → HTh P gl K t pend D e (hw w) → Ag n e a → okG gl w → listed.size = ops.size → Sp pend listed w →
    (∀ p ∈ pend, ∀ k, p.1.testBit k = true → E.testBit k = true) → (∀ k, D.testBit k = true → listed.getD k false = true) →
    (∀ k j oj, ops[j]? = some oj → (∃ e ∈ oj.after, Region.binds .any e = true ∧ e.on = k) → listed.getD j false = true → listed.getD k false = true) →
    wpAnyS P .any ops (endQ n gl K) (Sp pend) fuel listed a w := by
  intro fuel
  induction fuel with
  | zero =>
    intro listed t pend D e a w h hT ha hg hsz hS hE hD hcl
    simp only [mkT] at h
    split at h
    · rename_i hr
      simp only [Option.some.injEq] at h; subst h
      obtain ⟨e0, hle, hK⟩ := hT
      exact ⟨by simpa using hr, e0, ha.le hle, hg, hK⟩
    · cases h
  | succ fuel ih =>
    intro listed t pend D e a w h hT ha hg hsz hS hE hD hcl
    have hclset : ∀ i, i ∈ Region.ready .any ops listed → ∀ k j oj, ops[j]? = some oj → (∃ e ∈ oj.after, Region.binds .any e = true ∧ e.on = k) → (listed.setIfInBounds i true).getD j false = true → (listed.setIfInBounds i true).getD k false = true := by
      intro i hi k j oj hoj hex hj
      refine getD_set_true ?_
      by_cases hij : i = j
      · subst hij
        obtain ⟨_, o, ho, hall⟩ := mem_ready.1 hi
        rw [ho] at hoj; cases hoj
        obtain ⟨e', he, hb, rfl⟩ := hex
        exact hall e' he hb
      · rw [getD_set_ne false hij] at hj
        exact hcl k j oj hoj hex hj
    simp only [mkT] at h
    split at h
    · rename_i i hfind
      have hiE : E.testBit i = false := by simpa using List.find?_some hfind
      have hir : i ∈ Region.ready .any ops listed := List.mem_of_find?_eq_some hfind
      split at h
      · rename_i o ho
        split at h
        · rename_i g t' hgs ht'
          have hdo := dstOk_spec hd ho
          cases hfree : Region.free .any ops listed i with
          | false => rw [hfree] at h; cases h
          | true =>
            rw [hfree] at h
            simp only [cond_true] at h
            have hfr := Region.free_spec (md := .any) ho hfree
            have hQ : ∀ v c a w, endQ n gl K (.panic c) (Act.put a o.dst v) w → endQ n gl K (.panic c) a w := fun _ _ _ _ h => h.elim
            have hinv0 : ∀ k : Nat, False = true → listed.getD k false = false := fun _ h => by simp at h
            have hil : listed.getD i false = false := by
              have h0 := (mem_ready.1 hir).1
              rcases Nat.lt_or_ge i listed.size with h' | h'
              · simp [h'] at h0 ⊢; exact h0
              · simp [Array.getElem?_eq_none h']
            have hsz' : (listed.setIfInBounds i true).size = ops.size := by simpa using hsz
            have hD' : ∀ k, D.testBit k = true → (listed.setIfInBounds i true).getD k false = true := fun k hk => getD_set_true (hD k hk)
            -- not remembered
            have plain : ∀ e (ha : Ag n e a) v, YieldsIf P ops (fun _ => True) o v a → HTh P gl K t' pend D (put e o.dst v) (hw w) → wpAnyS P .any ops (endQ n gl K) (Sp pend) (fuel + 1) listed a w := by
              intro e ha v hy hT'
              refine wpAnyS_first (T := fun _ => True) (R := fun _ => false) (E := fun _ => false) ho (Region.noSelect_spec hs) (hQ v) (fun j hj => by simp at hj) (fun k hk => hk) rfl
                Sp_set (Sp_back hiE hE) fuel listed a w hfr (fun k hk => by simp at hk) hir hy hS trivial ?_
              refine wpAnyS_mono (fun l w h => ⟨h, fun _ => trivial⟩) _ _ _ _ (ih _ t' pend D _ _ w ht' hT' (ha.put hdo) hg hsz' (Sp_set _ _ _ hS) hE hD' (hclset i hir))
            have skip : ∀ e (ha : Ag n e a) t'', t = t'' → gdv e g = some false → HTh P gl K t' pend D (put e o.dst undef) (hw w) → wpAnyS P .any ops (endQ n gl K) (Sp pend) (fuel + 1) listed a w := by
              intro e ha _ _ hgv hT'
              exact plain e ha undef (.inr ⟨wanted_of ha hgs hgv, rfl⟩) hT'
            cases hmem : isMem (trX P o) with
            | false =>
              rw [hmem] at h
              simp only [cond_false, Option.some.injEq] at h; subst h
              simp only [HTh, remember] at hT
              obtain ⟨e0, hle, hT⟩ := hT
              replace ha := ha.le hle
              rcases hT with ⟨hgv, v, hR, hT'⟩ | ⟨hgv, hT'⟩
              · refine plain e0 ha v (.inl ⟨wanted_of ha hgs hgv, fun w' _ => ?_⟩) hT'
                exact RV_run (e := e0) (RV_any hmem hR) ha.agr
              · exact skip e0 ha _ rfl hgv hT'
            | true =>
              rw [hmem] at h
              simp only [cond_true] at h
              cases hok : okDep ops i (depMask ops i) with
              | false => rw [hok] at h; cases h
              | true =>
                rw [hok] at h
                simp only [cond_true, Option.some.injEq] at h; subst h
                simp only [HTh, remember] at hT
                obtain ⟨e0, hle, hT⟩ := hT
                replace ha := ha.le hle
                rcases hT with ⟨hgv, v, hR, hT'⟩ | ⟨hgv, hT'⟩
                · have hdep := okDep_spec hok
                  have hinv : ∀ k, (depMask ops i).testBit k = true → listed.getD k false = false := by
                    exact dep_unlisted hil hcl
                  refine wpAnyS_first (T := fun w => RV P (hw w) e0 (trX P o) v) (R := fun j => (depMask ops i).testBit j) (E := fun j => (depMask ops i &&& E).testBit j) ho (Region.noSelect_spec hs) (hQ v) hdep
                    (fun k hk => by rw [Nat.testBit_and] at hk; simp at hk; exact hk.1) (by rw [Nat.testBit_and, hiE]; simp) Sp_set (Sp_back hiE hE) fuel listed a w hfr hinv hir
                    (.inl ⟨wanted_of ha hgs hgv, fun w' hw' => RV_run hw' ha.agr⟩) hS hR ?_
                  have hE' : ∀ p ∈ ((depMask ops i &&& E, fun h => RV P h e0 (trX P o) v) :: pend : Pn), ∀ k, p.1.testBit k = true → E.testBit k = true := by
                    intro p hp k hk
                    rcases List.mem_cons.1 hp with rfl | hp
                    · rw [Nat.testBit_and] at hk; simp at hk; exact hk.2
                    · exact hE p hp k hk
                  have hS' : Sp ((depMask ops i &&& E, fun h => RV P h e0 (trX P o) v) :: pend) (listed.setIfInBounds i true) w := by
                    intro p hp hk
                    rcases List.mem_cons.1 hp with rfl | hp
                    · exact hR
                    · exact Sp_set _ _ _ hS p hp hk
                  refine wpAnyS_mono (fun l w h => ⟨fun p hp => h p (List.mem_cons_of_mem _ hp), fun hk => h _ (List.mem_cons_self) hk⟩) _ _ _ _
                    (ih _ t' _ D _ _ w ht' hT' (ha.put hdo) hg hsz' hS' hE' hD' (hclset i hir))
                · exact skip e0 ha _ rfl hgv hT'
        · cases h
      · cases h
    · rename_i hnone
      obtain ⟨ts, hm, rfl⟩ := Option.map_eq_some_iff.1 h
      obtain ⟨hnil, hall⟩ := mapM_mem _ _ _ hm
      refine ⟨fun hr => ?_, fun i hi => ?_⟩
      · have := hnil.1 hr
        subst this
        obtain ⟨e0, hle, hK⟩ := hT
        exact ⟨e0, ha.le hle, hg, hK⟩
      · obtain ⟨y, hy, hf⟩ := hall i hi
        have hne : ts ≠ [] := fun hh => by rw [hh] at hy; cases hy
        have hTy := altL_all ts hne hT y hy
        split at hf
        · rename_i o ho
          split at hf
          · rename_i g t' hgs ht'
            simp only [Option.some.injEq] at hf; subst hf
            have hdo := dstOk_spec hd ho
            have hil : i < listed.size := by rw [hsz]; exact ready_lt hi
            have hsz' : (listed.setIfInBounds i true).size = ops.size := by simpa using hsz
            unfold wpOp
            simp only [ho]
            simp only [HTh] at hTy
            obtain ⟨e0, hle, hTy⟩ := hTy
            replace ha := ha.le hle
            rcases hTy with ⟨hgv, hT'⟩ | ⟨hgv, hT'⟩
            · rw [wanted_of ha hgs hgv]
              simp only [if_true]
              refine .inl (run_efX (hT' w rfl hg) ha.agr ?_)
              rintro v w' ⟨hg', hP, hT''⟩
              have hS' := Sp_of_Pnd (w := w') hD hil hP
              exact ⟨hS', ih _ t' pend _ _ _ w' ht' hT'' (ha.put hdo) hg' hsz' hS' hE (D_set hD hil) (hclset i hi)⟩
            · rw [wanted_of ha hgs hgv]
              simp only [Bool.false_eq_true, if_false]
              have hS' := Sp_set (pend := pend) listed i w hS
              exact ⟨hS', ih _ t' pend _ _ _ w ht' hT' (ha.put hdo) hg hsz' hS' hE (D_set hD hil) (hclset i hi)⟩
          · cases hf
        · cases hf
end
end Go.Dv
