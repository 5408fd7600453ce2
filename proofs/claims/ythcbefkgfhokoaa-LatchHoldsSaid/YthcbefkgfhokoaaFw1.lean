import Derived.Orders
import Derived.OrdersHeld
/- The region theorem: a region that draws its order may be walked in one order: reads first, each with the condition that it stays so while it may still come. -/
namespace Go.Dv
open Go

section
variable {P : Program} {ops : Array Oper} {Q : Exit → Act → World → Prop} {md : Region.Mode}

def wpAnyS (P : Program) (md : Region.Mode) (ops : Array Oper) (Q : Exit → Act → World → Prop) (S : Array Bool → World → Prop) : Nat → Array Bool → Act → World → Prop
  | 0, listed, a, w => Region.ready md ops listed = [] ∧ Q .normal a w
  | fuel + 1, listed, a, w =>
    (Region.ready md ops listed = [] → Q .normal a w) ∧
    ∀ i ∈ Region.ready md ops listed, wpOp P ops Q i (fun a' w' => S (listed.setIfInBounds i true) w' ∧ wpAnyS P md ops Q S fuel (listed.setIfInBounds i true) a' w') a w

theorem wpAny_of_S {S : Array Bool → World → Prop} : ∀ (fuel : Nat) (listed : Array Bool) (a : Act) (w : World), wpAnyS P md ops Q S fuel listed a w → wpAny P md ops Q fuel listed a w
  | 0, _, _, _, h => h
  | fuel + 1, _, _, _, h => ⟨h.1, fun i hi => wpOp_mono (fun a' w' h' => wpAny_of_S fuel _ a' w' h'.2) (h.2 i hi)⟩

theorem wpAnyS_mono {S S' : Array Bool → World → Prop} (hs : ∀ l w, S' l w → S l w) : ∀ (fuel : Nat) (listed : Array Bool) (a : Act) (w : World), wpAnyS P md ops Q S' fuel listed a w → wpAnyS P md ops Q S fuel listed a w
  | 0, _, _, _, h => h
  | fuel + 1, _, _, _, h => ⟨h.1, fun i hi => wpOp_mono (fun a' w' h' => ⟨hs _ _ h'.1, wpAnyS_mono hs fuel _ a' w' h'.2⟩) (h.2 i hi)⟩

/-- Number 'i' is taken first. R: whatever hangs on it; E: those of R that turn the world. -/
theorem wpAnyS_first {S : Array Bool → World → Prop} {T : World → Prop} {R E : Nat → Bool} {i : Nat} {oi : Oper} {v : Value} (hi : ops[i]? = some oi)
    (hsel : ∀ (j : Nat) (o : Oper) cs b, ops[j]? = some o → o.op ≠ .select cs b)
    (hQ : ∀ c a w, Q (.panic c) (a.put oi.dst v) w → Q (.panic c) a w)
    (hR : ∀ j, R j = true → ∃ oj, ops[j]? = some oj ∧ ∃ e ∈ oj.after, Region.binds md e = true ∧ (e.on = i ∨ R e.on = true))
    (hE : ∀ k, E k = true → R k = true) (hEi : E i = false)
    (hSset : ∀ l k w, S l w → S (l.setIfInBounds k true) w) (hSi : ∀ l w, S (l.setIfInBounds i true) w → S l w) :
    ∀ (fuel : Nat) (listed : Array Bool) (a : Act) (w : World),
      (∀ j oj, ops[j]? = some oj → j ≠ i → listed.getD j true = false → (∀ e ∈ oj.after, Region.binds md e = true → e.on ≠ i) → oi.apart ops oj = true) →
      (∀ k, R k = true → listed.getD k false = false) →
      i ∈ Region.ready md ops listed → YieldsIf P ops T oi v a → S listed w → T w →
      wpAnyS P md ops Q (fun l w => S l w ∧ ((∀ k, E k = true → l.getD k false = false) → T w)) fuel (listed.setIfInBounds i true) (a.put oi.dst v) w →
      wpAnyS P md ops Q S (fuel + 1) listed a w := by
  intro fuel
  induction fuel with
  | zero =>
    intro listed a w _ _ hr hy hS hT H
    refine ⟨fun h => (by rw [h] at hr; cases hr), fun j hj => ?_⟩
    by_cases hji : j = i
    · subst hji; exact hy.wpOp hi hT ⟨hSset _ _ _ hS, wpAnyS_mono (fun _ _ h => h.1) _ _ _ _ H⟩
    · have := ready_mono hj hji
      rw [H.1] at this
      cases this
  | succ fuel ih =>
    intro listed a w hfree hinv hr hy hS hT H
    refine ⟨fun h => (by rw [h] at hr; cases hr), fun j hj => ?_⟩
    by_cases hji : j = i
    · subst hji; exact hy.wpOp hi hT ⟨hSset _ _ _ hS, wpAnyS_mono (fun _ _ h => h.1) _ _ _ _ H⟩
    · have h1 := H.2 j (ready_mono hj hji)
      obtain ⟨hjun, oj, hoj, hall⟩ := mem_ready.1 hj
      have hil : listed.getD i false = false := by
        have h0 := (mem_ready.1 hr).1
        rcases Nat.lt_or_ge i listed.size with h' | h'
        · simp [h'] at h0 ⊢; exact h0
        · simp [Array.getElem?_eq_none h']
      have hnot : ∀ e ∈ oj.after, Region.binds md e = true → e.on ≠ i := fun e he hb heq => by
        have h1 := hall e he hb
        rw [heq, hil] at h1; cases h1
      have hjR : R j = false := by
        cases hRj : R j with
        | false => rfl
        | true =>
          obtain ⟨oj', hoj', e, he, hb, hor⟩ := hR j hRj
          rw [hoj] at hoj'; cases hoj'
          rcases hor with h | h
          · exact absurd h (hnot e he hb)
          · have := hall e he hb
            rw [hinv _ h] at this; cases this
      have h2 := wpOp_putIf hoj (hfree j oj hoj hji hjun hnot) (fun cs b => hsel i oi cs b hi) (fun cs b => hsel j oj cs b hoj) hQ hy h1
      have hfree' : ∀ k ok, ops[k]? = some ok → k ≠ i → (listed.setIfInBounds j true).getD k true = false →
          (∀ e ∈ ok.after, Region.binds md e = true → e.on ≠ i) → oi.apart ops ok = true := fun k ok hk hki hun hno => by
        refine hfree k ok hk hki ?_ hno
        by_cases hjk : j = k
        · subst hjk; exact hjun
        · rw [getD_set_ne true hjk] at hun; exact hun
      have hinv' : ∀ k, R k = true → (listed.setIfInBounds j true).getD k false = false := fun k hk => by
        have hjk : j ≠ k := fun h => by rw [h, hk] at hjR; cases hjR
        rw [getD_set_ne false hjk]; exact hinv k hk
      refine wpOp_mono (fun a' w' h3 => ?_) h2
      obtain ⟨hy', ⟨hS1, hT1⟩, hrest⟩ := h3
      rw [Array.setIfInBounds_comm _ _ (Ne.symm hji)] at hS1 hT1
      have hS2 : S (listed.setIfInBounds j true) w' := hSi _ _ hS1
      have hT2 : T w' := hT1 fun k hk => by
        have hki : i ≠ k := fun h => by rw [h, hk] at hEi; cases hEi
        rw [getD_set_ne false hki]
        exact hinv' k (hE k hk)
      refine ⟨hS2, ih (listed.setIfInBounds j true) a' w' hfree' hinv' (ready_mono hr (Ne.symm hji)) hy' hS2 hT2 ?_⟩
      rw [Array.setIfInBounds_comm _ _ hji]
      exact hrest

end
end Go.Dv
