import Derived.Test.YthcbefkgfhokoaaBP
/- The laws' plain facts: what is laid; how much there is. -/
namespace Go.Proofs.Ythcbefkgfhokoaa
open Go Go.Dv
open Classical
set_option maxRecDepth 100000

/-- what the laws hold of a table: keys that may be, so many at most -/
structure Good (L : List In) (n : Nat) : Prop where
  key : ∀ y ∈ L, keyR y.w.key = true
  len : L.length ≤ n

theorem okW_key {n : Nat} {w : Wr} (h : okW n w = true) : keyR w.key = true := by
  simp only [okW, Bool.and_eq_true] at h
  exact h.1.1.2
theorem goR_key {n : Nat} : ∀ (ws : List Wr) (seen : List ByteArray), goR n seen ws = true → ∀ w ∈ ws, keyR w.key = true
  | [], _, _, w, hw => by cases hw
  | v :: ws, seen, h, w, hw => by
    simp only [goR] at h
    split at h
    · rename_i hc
      simp only [Bool.and_eq_true] at hc
      rcases List.mem_cons.1 hw with rfl | hw
      · exact okW_key hc.1
      · exact goR_key ws _ h w hw
    · cases h
theorem rightL_key {ws : List Wr} (h : rightL ws = true) : ∀ w ∈ ws, keyR w.key = true := by
  simp only [rightL, Bool.and_eq_true] at h
  exact goR_key ws [] h.1
theorem layF_mem (tx : Tx) (hd : Hd) : ∀ (ws : List Wr) (L : List In) (y : In), y ∈ layF tx hd L ws ↔ (∃ w ∈ ws, y = mkI tx hd w) ∨ y ∈ L
  | [], L, y => by simp [layF]
  | w :: ws, L, y => by
    show y ∈ layF tx hd (putL L (mkI tx hd w)) ws ↔ _
    rw [layF_mem tx hd ws, put_mem]
    simp only [List.mem_cons, exists_eq_or_imp]
    constructor
    · rintro (h | h | h)
      · exact .inl (.inr h)
      · exact .inl (.inl h)
      · exact .inr h
    · rintro ((h | h) | h)
      · exact .inr (.inl h)
      · exact .inl h
      · exact .inr (.inr h)
theorem putL_len (L : List In) (x : In) : (putL L x).length = L.length + 1 := by rw [(put_perm L x).length_eq]; rfl
theorem layF_len (tx : Tx) (hd : Hd) : ∀ (ws : List Wr) (L : List In), (layF tx hd L ws).length = L.length + ws.length
  | [], L => rfl
  | w :: ws, L => by
    show (layF tx hd (putL L (mkI tx hd w)) ws).length = _
    rw [layF_len tx hd ws, putL_len]
    simp; omega
theorem layA_right {st mn : Sm} {pr : ByteArray} {ws : List Wr} (h : layA st mn pr ws = true) : rightL ws = true := by
  simp only [layA, Bool.and_eq_true] at h
  exact h.1.1.1
theorem good_lay {L : List In} {n : Nat} (h : Good L n) (tx : Tx) (hd : Hd) (ws : List Wr) : Good (layL L tx hd ws) (n + 16) := by
  unfold layL
  split
  · rename_i hA
    split
    · exact ⟨h.key, by have := h.len; omega⟩
    · have hr := layA_right hA
      refine ⟨?_, ?_⟩
      · intro y hy
        rcases (layF_mem tx hd ws L y).1 hy with ⟨w, hw, rfl⟩ | hy
        · exact rightL_key hr w hw
        · exact h.key y hy
      · rw [layF_len]
        have := (rightL_ok hr).2.1
        have := h.len
        omega
  · exact ⟨h.key, by have := h.len; omega⟩
theorem good_mono {L : List In} {n m : Nat} (h : Good L n) (hm : n ≤ m) : Good L m := ⟨h.key, by have := h.len; omega⟩
theorem good_cut {L : List In} {n : Nat} (h : Good L n) (tx : Tx) : Good (cutL L tx) n := ⟨fun y hy => h.key y (List.mem_filter.1 hy).1, by have := h.len; have := List.length_filter_le (fun y : In => !eqT y.tx tx) L; exact Nat.le_trans this h.len⟩
theorem good_raise {L : List In} {n : Nat} (h : Good L n) (tx : Tx) (s : Sm) : Good (raiseL L tx s) n := by
  refine ⟨fun y hy => ?_, by rw [raiseL, List.length_map]; exact h.len⟩
  obtain ⟨z, hz, rfl⟩ := List.mem_map.1 hy
  rw [(raise_key tx s z).1]
  exact h.key z hz
theorem emp_lt {k : ByteArray} (h : keyR k = true) : slt emp k = true := by
  rcases slt_tri emp k with h1 | h1 | h1
  · exact h1
  · subst h1; revert h; decide
  · rw [slt_emp] at h1; cases h1

/-- stamps, as the statements compare them -/
theorem lt_plain (a b : Sm) : a.lt b = (decide (a.p < b.p) || (decide (a.p = b.p) && decide (a.l < b.l))) := by
  obtain ⟨p, l⟩ := a
  obtain ⟨p', l'⟩ := b
  simp only [Sm.lt, orI, cmpI]
  by_cases h1 : p < p'
  · simp [h1]
  · by_cases h2 : p' < p
    · have h3 : ¬ p = p' := by omega
      simp [h1, h2, h3]
    · have h3 : p = p' := by omega
      subst h3
      by_cases h4 : l < l'
      · simp [h4]
      · by_cases h5 : l' < l
        · simp [h4, h5]
        · simp [h4, h5]
theorem nlt_plain (q m : Sm) : (!q.lt m) = (decide (m.p < q.p) || (decide (m.p = q.p) && decide (m.l ≤ q.l))) := by
  rw [lt_plain]
  by_cases h1 : q.p < m.p
  · have h2 : ¬ m.p < q.p := by omega
    have h3 : ¬ m.p = q.p := by omega
    simp [h1, h2, h3]
  · by_cases h2 : m.p < q.p
    · have h3 : ¬ q.p = m.p := by omega
      simp [h1, h2, h3]
    · have h3 : q.p = m.p := by omega
      have h4 : m.p = q.p := h3.symm
      by_cases h5 : q.l < m.l
      · have h6 : ¬ m.l ≤ q.l := by omega
        simp [h3, h5, h6]
      · have h6 : m.l ≤ q.l := by omega
        simp [h3, h5, h6]
theorem tabL_srt {t : Nat} {L : List In} : ∀ h, TabL t L h → SrtI L := by
  unfold TabL
  rintro h ⟨x, I, _⟩
  exact I.srt
def acs (l : List Act) : List (List Value) := l.map Act.cells
theorem acts_arg {W : World} {r : Reach} {b : Nat} {v : Value} {H : Type} {enc : TypeId × Value → H} {sp : Nat → Bool} {held : Bool} {d : DataW H} {ps : List MemPlace} (h : Value.okWide Try.prog W r b 22 v) (ht : DataW.Trod enc Try.prog W 0 sp held 22 v d ps) :
    ∃ acts : List Act, RdS (Old W) 12 v (acs acts) ∧ acts.length ≤ maxLen ∧ ∀ a ∈ acts, a.ok (Old W) := by
  obtain ⟨fuel, ht⟩ := ht
  have h33 : (22 : Nat) < Try.prog.types.size := of_decide_eq_true (by kernel_rfl)
  have hs : shOf Try.prog 7 22 = some (.sl 12 actSh) := by kernel_rfl
  obtain ⟨a, l, c, rfl⟩ := okw_slice (e := 32) (by kernel_rfl) h
  obtain ⟨v, xs, hv, hr, hl, he⟩ := rdsh_of laidOut 7 22 _ fuel _ _ h33 hs ht
  obtain ⟨acts, rfl, hok⟩ := list_choose (f := Act.cells) (p := fun a => a.ok (Old W)) fun x hx => rd_act (he x hx)
  have hv' : v = .slice a l c := by
    have := congrArg (·[0]?) hv
    simpa [Value.cells] using this.symm
  subst hv'
  exact ⟨acts, hr, by simpa using hl, hok⟩
end Go.Proofs.Ythcbefkgfhokoaa
