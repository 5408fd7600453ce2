import Derived.Test.YthcbefkgfhokoaaB0
/- The tree, plainly: heights, what it holds, in order. -/
namespace Go.Proofs.Ythcbefkgfhokoaa
open Go Go.Dv

/-! ### the order of strings -/
theorem bl_irr : ∀ x : List UInt8, Op.bytesLess x x = false
  | [] => rfl
  | a :: x => by simp [Op.bytesLess, bl_irr x]
theorem bl_trans : ∀ x y z : List UInt8, Op.bytesLess x y = true → Op.bytesLess y z = true → Op.bytesLess x z = true
  | _, [], [], h, _ => by simp [Op.bytesLess] at h
  | _, _ :: _, [], _, h => by simp [Op.bytesLess] at h
  | [], [], _ :: _, h, _ => by simp [Op.bytesLess] at h
  | [], _ :: _, _ :: _, _, _ => rfl
  | a :: x, [], c :: z, h, _ => by simp [Op.bytesLess] at h
  | a :: x, b :: y, c :: z, h1, h2 => by
    simp only [Op.bytesLess, Bool.or_eq_true, Bool.and_eq_true, beq_iff_eq, decide_eq_true_eq] at *
    rcases h1 with h1 | ⟨rfl, h1⟩ <;> rcases h2 with h2 | ⟨rfl, h2⟩
    · exact .inl (UInt8.lt_trans h1 h2)
    · exact .inl h1
    · exact .inl h2
    · exact .inr ⟨rfl, bl_trans x y z h1 h2⟩
theorem slt_irr (x : ByteArray) : slt x x = false := bl_irr _
theorem slt_trans {x y z : ByteArray} (h1 : slt x y = true) (h2 : slt y z = true) : slt x z = true := bl_trans _ _ _ h1 h2
theorem slt_tri (x y : ByteArray) : slt x y = true ∨ x = y ∨ slt y x = true := by
  have := slt_gtr x y
  rw [str_eq] at this
  by_cases h1 : slt x y = true
  · exact .inl h1
  · by_cases h2 : x = y
    · exact .inr (.inl h2)
    · refine .inr (.inr ?_)
      rw [← this]
      have h1' : Op.bytesLess x.toList y.toList = false := by simpa [slt] using h1
      simp [h1', h2]
theorem slt_asymm {x y : ByteArray} (h : slt x y = true) : slt y x = false := by
  cases h2 : slt y x with
  | false => rfl
  | true => have := slt_trans h h2; rw [slt_irr] at this; cases this
theorem slt_ne {x y : ByteArray} (h : slt x y = true) : x ≠ y := by rintro rfl; rw [slt_irr] at h; cases h

/-! ### heights -/
def sz : Tr Ow → Nat
  | .nil => 0
  | .node _ _ _ l r => sz l + sz r + 1
def Hk : Tr Ow → Prop
  | .nil => True
  | .node _ _ hi l r => hi = 1 + max (height l) (height r) ∧ Hk l ∧ Hk r
def toL : Tr Ow → List (ByteArray × Ow)
  | .nil => []
  | .node k v _ l r => toL l ++ (k, v) :: toL r

theorem hnil : height .nil = 0 := rfl
theorem hnode (k : ByteArray) (v : Ow) (hi : Int) (l r : Tr Ow) : height (.node k v hi l r) = hi := rfl
theorem hk_bd : ∀ {t : Tr Ow}, Hk t → 0 ≤ height t ∧ height t ≤ sz t
  | .nil, _ => by simp [hnil, sz]
  | .node k v hi l r, h => by
    obtain ⟨rfl, hl, hr⟩ := h
    have := hk_bd hl; have := hk_bd hr
    simp only [hnode, sz]; omega
theorem mh_eq {a b : Int} (ha : 0 ≤ a) (hb : 0 ≤ b) (ha' : a < 2199023255552) (hb' : b < 2199023255552) : mh a b = 1 + max a b := by
  have h1 : (if b > a then b else a) = max a b := by
    by_cases h : b > a
    · rw [if_pos h]; omega
    · rw [if_neg h]; omega
  unfold mh
  rw [h1]
  simp only [IntKind.wrap, IntKind.bits, IntKind.signed]
  simp
  omega
theorem df_eq {l r : Tr Ow} (hl : Hk l) (hr : Hk r) (hs : sz l + sz r < 1099511627776) : df l r = height l - height r := by
  have := hk_bd hl; have := hk_bd hr
  unfold df
  simp only [IntKind.wrap, IntKind.bits, IntKind.signed]
  simp
  omega
theorem evOk_of {l r : Tr Ow} (hl : Hk l) (hr : Hk r) (hs : sz l + sz r < 1099511627776) : evOk l r := by
  have h1 := hk_bd hl; have h2 := hk_bd hr
  rw [evOk, df_eq hl hr hs]
  constructor
  · intro h
    cases l with
    | nil => rw [hnil] at h; omega
    | node lk lv lh ll lr =>
      refine ⟨lk, lv, lh, ll, lr, rfl, fun h3 => ?_⟩
      have := hk_bd hl.2.1
      cases lr with
      | nil => rw [hnil] at h3; omega
      | node => rfl
  · intro h
    cases r with
    | nil => rw [hnil] at h; omega
    | node lk lv lh ll lr =>
      refine ⟨lk, lv, lh, ll, lr, rfl, fun h3 => ?_⟩
      have := hk_bd hr.2.2
      cases ll with
      | nil => rw [hnil] at h3; omega
      | node => rfl
theorem hk_mk {k : ByteArray} {v : Ow} {l r : Tr Ow} (hl : Hk l) (hr : Hk r) (hs : sz l + sz r < 2199023255552) : Hk (mk k v l r) := by
  have h1 := hk_bd hl; have h2 := hk_bd hr
  exact ⟨mh_eq (by omega) (by omega) (by omega) (by omega), hl, hr⟩
/-- what turns about keep -/
structure Same (t : Tr Ow) (k : ByteArray) (v : Ow) (l r : Tr Ow) : Prop where
  hk : Hk t
  sz : sz t = sz l + sz r + 1
  toL : toL t = toL l ++ (k, v) :: toL r
  nn : isN t = true
theorem mk_same {k : ByteArray} {v : Ow} {l r : Tr Ow} (hl : Hk l) (hr : Hk r) (hs : sz l + sz r < 2199023255552) : Same (mk k v l r) k v l r := ⟨hk_mk hl hr hs, rfl, rfl, rfl⟩
theorem turnR_same {k : ByteArray} {v : Ow} {l r : Tr Ow} (hl : Hk l) (hr : Hk r) (hs : sz l + sz r < 2199023255552) : Same (turnR k v l r) k v l r := by
  cases l with
  | nil => exact mk_same hl hr hs
  | node lk lv lh ll lr =>
    simp only [sz] at hs
    have h1 := mk_same (k := k) (v := v) hl.2.2 hr (by omega)
    have h2 := mk_same (k := lk) (v := lv) hl.2.1 h1.hk (by have := h1.sz; omega)
    refine ⟨h2.hk, ?_, ?_, rfl⟩
    · have := h2.sz; have := h1.sz; simp only [turnR, sz] at *; omega
    · simp only [turnR]; rw [h2.toL, h1.toL]; simp [toL]
theorem turnL_same {k : ByteArray} {v : Ow} {l r : Tr Ow} (hl : Hk l) (hr : Hk r) (hs : sz l + sz r < 2199023255552) : Same (turnL k v l r) k v l r := by
  cases r with
  | nil => exact mk_same hl hr hs
  | node lk lv lh ll lr =>
    simp only [sz] at hs
    have h1 := mk_same (k := k) (v := v) hl hr.2.1 (by omega)
    have h2 := mk_same (k := lk) (v := lv) h1.hk hr.2.2 (by have := h1.sz; omega)
    refine ⟨h2.hk, ?_, ?_, rfl⟩
    · have := h2.sz; have := h1.sz; simp only [turnL, sz] at *; omega
    · simp only [turnL]; rw [h2.toL, h1.toL]; simp [toL]
theorem even_same {k : ByteArray} {v : Ow} {l r : Tr Ow} (hl : Hk l) (hr : Hk r) (hs : sz l + sz r < 1099511627776) : Same (even k v l r) k v l r := by
  unfold even
  split
  · unfold evenR
    cases l with
    | nil => exact mk_same hl hr (by omega)
    | node lk lv lh ll lr =>
      simp only
      simp only [sz] at hs
      split
      · have h1 := turnL_same (k := lk) (v := lv) hl.2.1 hl.2.2 (by omega)
        have h2 := turnR_same (k := k) (v := v) h1.hk hr (by have := h1.sz; omega)
        refine ⟨h2.hk, ?_, ?_, h2.nn⟩
        · have := h2.sz; have := h1.sz; simp only [sz] at *; omega
        · rw [h2.toL, h1.toL]; simp [toL]
      · exact turnR_same hl hr (by simp only [sz]; omega)
  · split
    · unfold evenL
      cases r with
      | nil => exact mk_same hl hr (by omega)
      | node lk lv lh ll lr =>
        simp only
        simp only [sz] at hs
        split
        · have h1 := turnR_same (k := lk) (v := lv) hr.2.1 hr.2.2 (by omega)
          have h2 := turnL_same (k := k) (v := v) hl h1.hk (by have := h1.sz; omega)
          refine ⟨h2.hk, ?_, ?_, h2.nn⟩
          · have := h2.sz; have := h1.sz; simp only [sz] at *; omega
          · rw [h2.toL, h1.toL]; simp [toL]
        · exact turnL_same hl hr (by simp only [sz]; omega)
    · exact mk_same hl hr (by omega)

/-! ### in order -/
abbrev KL := List (ByteArray × Ow)
def Srt (l : KL) : Prop := l.Pairwise fun x y => slt x.1 y.1 = true
def insK (l : KL) (k : ByteArray) (v : Ow) : KL := match l with
  | [] => [(k, v)]
  | x :: l => if slt k x.1 then (k, v) :: x :: l else if slt x.1 k then x :: insK l k v else (x.1, v) :: l
def getK (l : KL) (k : ByteArray) : Option Ow := (l.find? fun x => x.1 = k).map (·.2)
def cutK (l : KL) (k : ByteArray) : KL := l.filter fun x => x.1 ≠ k

def ins (key : ByteArray) (v : Ow) : Tr Ow → Tr Ow
  | .nil => .node key v 1 .nil .nil
  | .node k v0 hi l r => if slt key k then even k v0 (ins key v l) r else if slt k key then even k v0 l (ins key v r) else .node k v hi l r
theorem insK_left {l r : KL} {x : ByteArray × Ow} {k : ByteArray} {v : Ow} (h : slt k x.1 = true) : insK (l ++ x :: r) k v = insK l k v ++ x :: r := by
  induction l with
  | nil => simp [insK, h]
  | cons y l ih =>
    simp only [List.cons_append, insK]
    split
    · rfl
    · split
      · rw [ih]; rfl
      · rfl
theorem insK_right {l r : KL} {x : ByteArray × Ow} {k : ByteArray} {v : Ow} (h : slt x.1 k = true) (hs : ∀ y ∈ l, slt y.1 x.1 = true) : insK (l ++ x :: r) k v = l ++ x :: insK r k v := by
  induction l with
  | nil => simp [insK, h, slt_asymm h]
  | cons y l ih =>
    have hy := slt_trans (hs y (by simp)) h
    simp only [List.cons_append, insK, slt_asymm hy, hy, if_true, Bool.false_eq_true, if_false]
    rw [ih fun z hz => hs z (by simp [hz])]
theorem insK_mid {l r : KL} {k : ByteArray} {v0 v : Ow} (hs : ∀ y ∈ l, slt y.1 k = true) : insK (l ++ (k, v0) :: r) k v = l ++ (k, v) :: r := by
  induction l with
  | nil => simp [insK, slt_irr]
  | cons y l ih =>
    have hy := hs y (by simp)
    simp only [List.cons_append, insK, slt_asymm hy, hy, if_true, Bool.false_eq_true, if_false]
    rw [ih fun z hz => hs z (by simp [hz])]
theorem insK_len (l : KL) (k : ByteArray) (v : Ow) : (insK l k v).length ≤ l.length + 1 := by
  induction l with
  | nil => simp [insK]
  | cons x l ih => simp only [insK]; split <;> (try split) <;> simp <;> omega
theorem sz_len : ∀ t : Tr Ow, sz t = (toL t).length
  | .nil => rfl
  | .node k v hi l r => by simp [sz, toL, sz_len l, sz_len r]; omega
theorem ins_ok (key : ByteArray) (v : Ow) : ∀ t : Tr Ow, Hk t → sz t < 549755813888 → Srt (toL t) → Hk (ins key v t) ∧ toL (ins key v t) = insK (toL t) key v ∧ sz (ins key v t) ≤ sz t + 1 ∧ isN (ins key v t) = true
  | .nil, _, _, _ => ⟨⟨by simp [height], trivial, trivial⟩, rfl, by simp [ins, sz], rfl⟩
  | .node k v0 hi l r, h, hs, hsrt => by
    simp only [sz] at hs
    obtain ⟨hhi, hl, hr⟩ := h
    simp only [toL, Srt] at hsrt
    have hsl : Srt (toL l) := (List.pairwise_append.1 hsrt).1
    have hsr : Srt (toL r) := (List.pairwise_cons.1 (List.pairwise_append.1 hsrt).2.1).2
    have hlx : ∀ y ∈ toL l, slt y.1 k = true := fun y hy => (List.pairwise_append.1 hsrt).2.2 y hy (k, v0) (by simp)
    simp only [ins]
    split
    · rename_i hlt
      obtain ⟨h1, h2, h3, _⟩ := ins_ok key v l hl (by omega) hsl
      have hev := even_same (k := k) (v := v0) h1 hr (by omega)
      exact ⟨hev.hk, by rw [hev.toL, h2, toL, insK_left hlt], by rw [hev.sz]; simp only [sz]; omega, hev.nn⟩
    · rename_i hlt
      split
      · rename_i hgt
        obtain ⟨h1, h2, h3, _⟩ := ins_ok key v r hr (by omega) hsr
        have hev := even_same (k := k) (v := v0) hl h1 (by omega)
        exact ⟨hev.hk, by rw [hev.toL, h2, toL, insK_right hgt hlx], by rw [hev.sz]; simp only [sz]; omega, hev.nn⟩
      · rename_i hgt
        have hkk : key = k := by
          rcases slt_tri key k with h | h | h
          · exact absurd h hlt
          · exact h
          · exact absurd h hgt
        subst hkk
        refine ⟨⟨hhi, hl, hr⟩, ?_, by simp [sz], rfl⟩
        simp only [toL]
        exact (insK_mid hlx).symm
end Go.Proofs.Ythcbefkgfhokoaa
