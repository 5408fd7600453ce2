import Derived.Test.YthcbefkgfhokoaaB3
/- The map: cut. -/
namespace Go.Proofs.Ythcbefkgfhokoaa
open Go Go.Dv
set_option maxRecDepth 100000

def popT : Tr Ow → Tr Ow
  | .nil => .nil
  | .node _ _ _ .nil r => r
  | .node k v _ (.node lk lv lh ll lr) r => even k v (popT (.node lk lv lh ll lr)) r
def popK : Tr Ow → ByteArray × Ow
  | .nil => (⟨#[]⟩, owZ)
  | .node k v _ .nil _ => (k, v)
  | .node _ _ _ (.node lk lv lh ll lr) _ => popK (.node lk lv lh ll lr)
theorem pop_ok : ∀ (t : Tr Ow), Hk t → sz t < 549755813888 → isN t = true → Hk (popT t) ∧ toL t = popK t :: toL (popT t) ∧ sz t = sz (popT t) + 1
  | .nil, _, _, h => by cases h
  | .node k v hi .nil r, h, _, _ => ⟨h.2.2, by simp [toL, popK, popT], by simp [sz, popT]⟩
  | .node k v hi (.node lk lv lh ll lr) r, h, hs, _ => by
    obtain ⟨h1, h2, h3⟩ := pop_ok (.node lk lv lh ll lr) h.2.1 (by simp only [sz] at hs ⊢; omega) rfl
    have h4 : sz (Tr.node lk lv lh ll lr) + sz r < 549755813888 := by simp only [sz] at hs ⊢; omega
    have hev := even_same (k := k) (v := v) h1 h.2.2 (by omega)
    simp only [popT, popK]
    refine ⟨hev.hk, ?_, ?_⟩
    · rw [hev.toL, toL, h2]; simp
    · rw [hev.sz]; simp only [sz] at h3 ⊢; omega
attribute [local irreducible] HTh HM En Fsp TrA Cl MpA

set_option maxHeartbeats 1000000 in
theorem first_spec : ∀ (t : Tr Ow) (a : Option Addr), Hk t → sz t < 549755813888 → isN t = true →
    Fsp Try.prog 71 [.pointer a] [TrA a t] fun u aa' => ∃ a' b hi ar, u = .tuple #[.pointer a', .pointer (some ⟨b, 0, none⟩)] ∧
      aa' = [TrA a' (popT t), Cl b 92 (nodeCells (popK t).1 (popK t).2 hi none ar)] := by
  intro t
  induction t with
  | nil => intro a _ _ h; cases h
  | node k v hi l r ihl ihr =>
    intro a hk hs _
    refine spec_of F71.ok rfl fun gl X => ?_
    dsimp only [List.cons_append, List.nil_append]
    refine en_tree (by repeat (first | with_reducible exact Pk.h | with_reducible apply Pk.t)) ?_
    rintro b al ar rfl
    cases l with
    | nil =>
      refine en_nil (by repeat (first | with_reducible exact Pk.h | with_reducible apply Pk.t)) ?_
      rintro rfl
      (repeat (first | ((with_reducible apply t_run); exact rfl) | ((with_reducible apply t_p); exact rfl; exact rfl) | ((with_reducible apply t_gr); exact rfl) | ((with_reducible apply t_ge); exact rfl) | ((with_reducible apply t_ld); exact rfl; exact rfl; (repeat (first | with_reducible exact Pk.h | with_reducible apply Pk.t)); exact rfl) | ((with_reducible apply t_st); exact rfl; exact rfl; exact rfl; (repeat (first | with_reducible exact Pk.h | with_reducible apply Pk.t)); exact rfl; exact rfl; exact Nat.le_of_ble_eq_true rfl; exact rfl; (repeat (first | apply rk_nil | (apply rk_skip; exact rfl) | (apply rk_ld; exact rfl; (repeat (first | with_reducible exact Pk.h | with_reducible apply Pk.t)); exact rfl)))) | ((with_reducible apply t_nx F71.k); exact rfl; exact rfl) | with_reducible apply m_seq | (with_reducible apply m_reg mix) | with_reducible apply m_block | ((with_reducible apply m_ct); exact rfl) | ((with_reducible apply m_cf); exact rfl) | ((with_reducible apply m_skn); exact rfl) | ((with_reducible apply m_exn); exact rfl)))
      apply m_ret
      · rfl
      · (repeat (first | apply rs_nil | (apply rs_tmp; exact rfl) | (apply rs_cell; exact rfl; (repeat (first | with_reducible exact Pk.h | with_reducible apply Pk.t)); exact rfl)))
      · exact ⟨_, _, hi, ar, rfl, rfl⟩
      · exact (by repeat (first | apply Sx.nil | apply Pk.h | apply Sx.cons | apply Pk.t))
    | node lk lv lh ll lr =>
      obtain ⟨h1, h2, h3⟩ := pop_ok (.node lk lv lh ll lr) hk.2.1 (by simp only [sz] at hs ⊢; omega) rfl
      have h4 : sz (Tr.node lk lv lh ll lr) + sz r < 549755813888 := by simp only [sz] at hs ⊢; omega
      have hev := evOk_of h1 hk.2.2 (by omega)
      refine en_tree (a := al) (by repeat (first | with_reducible exact Pk.h | with_reducible apply Pk.t)) ?_
      rintro c bl br rfl
      (repeat (first | ((with_reducible apply t_run); exact rfl) | ((with_reducible apply t_p); exact rfl; exact rfl) | ((with_reducible apply t_gr); exact rfl) | ((with_reducible apply t_ge); exact rfl) | ((with_reducible apply t_ld); exact rfl; exact rfl; (repeat (first | with_reducible exact Pk.h | with_reducible apply Pk.t)); exact rfl) | ((with_reducible apply t_st); exact rfl; exact rfl; exact rfl; (repeat (first | with_reducible exact Pk.h | with_reducible apply Pk.t)); exact rfl; exact rfl; exact Nat.le_of_ble_eq_true rfl; exact rfl; (repeat (first | apply rk_nil | (apply rk_skip; exact rfl) | (apply rk_ld; exact rfl; (repeat (first | with_reducible exact Pk.h | with_reducible apply Pk.t)); exact rfl)))) | ((with_reducible apply t_nx F71.k); exact rfl; exact rfl) | with_reducible apply m_seq | (with_reducible apply m_reg mix) | with_reducible apply m_block | ((with_reducible apply m_ct); exact rfl) | ((with_reducible apply m_cf); exact rfl) | ((with_reducible apply m_skn); exact rfl) | ((with_reducible apply m_exn); exact rfl)))
      refine en_node (b := c) (l := ll) (r := lr) (by repeat (first | apply Sx.nil | apply Pk.h | apply Sx.cons | apply Pk.t)) ?_
      refine t_cl rfl rfl (ihl (some ⟨c, 0, none⟩) hk.2.1 (by omega) rfl) (by repeat (first | apply Sx.nil | apply Pk.h | apply Sx.cons | apply Pk.t)) ?_
      rintro _ _ ⟨a', b', hi', ar', rfl, rfl⟩
      refine ⟨?_, ?_⟩ <;> (try dsimp only [List.cons_append, List.nil_append])
      · (repeat (first | apply rk_nil | (apply rk_skip; exact rfl) | (apply rk_ld; exact rfl; (repeat (first | with_reducible exact Pk.h | with_reducible apply Pk.t)); exact rfl)))
      (repeat (first | ((with_reducible apply t_run); exact rfl) | ((with_reducible apply t_p); exact rfl; exact rfl) | ((with_reducible apply t_gr); exact rfl) | ((with_reducible apply t_ge); exact rfl) | ((with_reducible apply t_ld); exact rfl; exact rfl; (repeat (first | with_reducible exact Pk.h | with_reducible apply Pk.t)); exact rfl) | ((with_reducible apply t_st); exact rfl; exact rfl; exact rfl; (repeat (first | with_reducible exact Pk.h | with_reducible apply Pk.t)); exact rfl; exact rfl; exact Nat.le_of_ble_eq_true rfl; exact rfl; (repeat (first | apply rk_nil | (apply rk_skip; exact rfl) | (apply rk_ld; exact rfl; (repeat (first | with_reducible exact Pk.h | with_reducible apply Pk.t)); exact rfl)))) | ((with_reducible apply t_nx F71.k); exact rfl; exact rfl) | with_reducible apply m_seq | (with_reducible apply m_reg mix) | with_reducible apply m_block | ((with_reducible apply m_ct); exact rfl) | ((with_reducible apply m_cf); exact rfl) | ((with_reducible apply m_skn); exact rfl) | ((with_reducible apply m_exn); exact rfl)))
      refine en_node (b := b) (k := k) (l := popT (.node lk lv lh ll lr)) (r := r) (by repeat (first | apply Sx.nil | apply Pk.h | apply Sx.cons | apply Pk.t)) ?_
      refine t_cl rfl rfl (even_spec (some ⟨b, 0, none⟩) k v _ _ _ hev) (by repeat (first | apply Sx.nil | apply Pk.h | apply Sx.cons | apply Pk.t)) ?_
      rintro _ _ ⟨a2, rfl, rfl⟩
      refine ⟨?_, ?_⟩ <;> (try dsimp only [List.cons_append, List.nil_append])
      · (repeat (first | apply rk_nil | (apply rk_skip; exact rfl) | (apply rk_ld; exact rfl; (repeat (first | with_reducible exact Pk.h | with_reducible apply Pk.t)); exact rfl)))
      (repeat (first | ((with_reducible apply t_run); exact rfl) | ((with_reducible apply t_p); exact rfl; exact rfl) | ((with_reducible apply t_gr); exact rfl) | ((with_reducible apply t_ge); exact rfl) | ((with_reducible apply t_ld); exact rfl; exact rfl; (repeat (first | with_reducible exact Pk.h | with_reducible apply Pk.t)); exact rfl) | ((with_reducible apply t_st); exact rfl; exact rfl; exact rfl; (repeat (first | with_reducible exact Pk.h | with_reducible apply Pk.t)); exact rfl; exact rfl; exact Nat.le_of_ble_eq_true rfl; exact rfl; (repeat (first | apply rk_nil | (apply rk_skip; exact rfl) | (apply rk_ld; exact rfl; (repeat (first | with_reducible exact Pk.h | with_reducible apply Pk.t)); exact rfl)))) | ((with_reducible apply t_nx F71.k); exact rfl; exact rfl) | with_reducible apply m_seq | (with_reducible apply m_reg mix) | with_reducible apply m_block | ((with_reducible apply m_ct); exact rfl) | ((with_reducible apply m_cf); exact rfl) | ((with_reducible apply m_skn); exact rfl) | ((with_reducible apply m_exn); exact rfl)))
      apply m_ret
      · rfl
      · (repeat (first | apply rs_nil | (apply rs_tmp; exact rfl) | (apply rs_cell; exact rfl; (repeat (first | with_reducible exact Pk.h | with_reducible apply Pk.t)); exact rfl)))
      · exact ⟨_, _, hi', ar', rfl, rfl⟩
      · exact (by repeat (first | apply Sx.nil | apply Pk.h | apply Sx.cons | apply Pk.t))

def cutT (key : ByteArray) : Tr Ow → Tr Ow
  | .nil => .nil
  | .node k v _ l r => if slt key k then even k v (cutT key l) r else if slt k key then even k v l (cutT key r) else
    match r with
    | .nil => l
    | .node rk rv rh rl rr => even (popK (.node rk rv rh rl rr)).1 (popK (.node rk rv rh rl rr)).2 l (popT (.node rk rv rh rl rr))
def subN (key : ByteArray) : Tr Ow → Int → Int
  | .nil, n => n
  | .node k _ _ l r, n => if slt key k then subN key l n else if slt k key then subN key r n else IntKind.i64.wrap (n - 1)

theorem cutK_no {l : KL} {key : ByteArray} (h : ∀ y ∈ l, y.1 ≠ key) : cutK l key = l := by
  simp only [cutK]
  rw [List.filter_eq_self]
  intro y hy
  simpa using h y hy
theorem cut_ok (key : ByteArray) : ∀ t : Tr Ow, Hk t → sz t < 549755813888 → Srt (toL t) → Hk (cutT key t) ∧ toL (cutT key t) = cutK (toL t) key ∧ sz (cutT key t) ≤ sz t ∧
    ∀ n : Nat, sz t ≤ n → n < 4611686018427387904 → ∃ d : Nat, sz t = sz (cutT key t) + d ∧ subN key t (n : Int) = ((n - d : Nat) : Int)
  | .nil, _, _, _ => ⟨trivial, rfl, by simp [cutT], fun n _ _ => ⟨0, by simp [cutT], by simp [subN]⟩⟩
  | .node k v hi l r, h, hs, hsrt => by
    simp only [sz] at hs
    obtain ⟨hhi, hl, hr⟩ := h
    have hsl : Srt (toL l) := (List.pairwise_append.1 hsrt).1
    have hsr : Srt (toL r) := (List.pairwise_cons.1 (List.pairwise_append.1 hsrt).2.1).2
    have hxr : ∀ y ∈ toL r, slt k y.1 = true := (List.pairwise_cons.1 (List.pairwise_append.1 hsrt).2.1).1
    have hlx : ∀ y ∈ toL l, slt y.1 k = true := fun y hy => (List.pairwise_append.1 hsrt).2.2 y hy (k, v) (by simp)
    simp only [cutT, toL, subN]
    split
    · rename_i hlt
      obtain ⟨h1, h2, h3, h4⟩ := cut_ok key l hl (by omega) hsl
      have hev := even_same (k := k) (v := v) h1 hr (by omega)
      refine ⟨hev.hk, ?_, by rw [hev.sz]; simp only [sz]; omega, fun n hn hn' => ?_⟩
      · rw [hev.toL, h2]
        have e1 : cutK ((k, v) :: toL r) key = (k, v) :: toL r := cutK_no (by
          intro y hy
          rcases List.mem_cons.1 hy with rfl | hy
          · exact (slt_ne hlt).symm
          · exact (slt_ne (slt_trans hlt (hxr y hy))).symm)
        simp only [cutK, List.filter_append] at e1 ⊢
        rw [e1]
      · simp only [sz] at hn
        obtain ⟨d, hd1, hd2⟩ := h4 n (by omega) hn'
        exact ⟨d, by rw [hev.sz]; simp only [sz]; omega, hd2⟩
    · rename_i hlt
      split
      · rename_i hgt
        obtain ⟨h1, h2, h3, h4⟩ := cut_ok key r hr (by omega) hsr
        have hev := even_same (k := k) (v := v) hl h1 (by omega)
        refine ⟨hev.hk, ?_, by rw [hev.sz]; simp only [sz]; omega, fun n hn hn' => ?_⟩
        · rw [hev.toL, h2]
          have e1 : cutK (toL l) key = toL l := cutK_no (fun y hy => slt_ne (slt_trans (hlx y hy) hgt))
          have e2 : decide (k ≠ key) = true := by simpa using slt_ne hgt
          simp only [cutK, List.filter_append, List.filter_cons] at e1 ⊢
          rw [e1, e2]; simp
        · simp only [sz] at hn
          obtain ⟨d, hd1, hd2⟩ := h4 n (by omega) hn'
          exact ⟨d, by rw [hev.sz]; simp only [sz]; omega, hd2⟩
      · rename_i hgt
        have hkk : key = k := by
          rcases slt_tri key k with h | h | h
          · exact absurd h hlt
          · exact h
          · exact absurd h hgt
        subst hkk
        have e1 : cutK (toL l) key = toL l := cutK_no (fun y hy => slt_ne (hlx y hy))
        have e2 : cutK (toL r) key = toL r := cutK_no (fun y hy => (slt_ne (hxr y hy)).symm)
        have e3 : cutK (toL l ++ (key, v) :: toL r) key = toL l ++ toL r := by
          simp only [cutK, List.filter_append, List.filter_cons] at e1 e2 ⊢
          rw [e1, e2]; simp
        have e4 : ∀ n : Nat, 1 ≤ n → n < 4611686018427387904 → IntKind.i64.wrap ((n : Int) - 1) = ((n - 1 : Nat) : Int) := by
          intro n h1 h2
          simp only [IntKind.wrap, IntKind.bits, IntKind.signed]; simp; omega
        rw [e3]
        cases r with
        | nil => exact ⟨hl, by simp [toL], by simp only [sz]; omega, fun n hn hn' => ⟨1, by simp [sz], e4 n (by simp only [sz] at hn; omega) hn'⟩⟩
        | node rk rv rh rl rr =>
          obtain ⟨h1, h2, h3⟩ := pop_ok (.node rk rv rh rl rr) hr (by omega) rfl
          have hev := even_same (k := (popK (.node rk rv rh rl rr)).1) (v := (popK (.node rk rv rh rl rr)).2) hl h1 (by omega)
          refine ⟨hev.hk, ?_, ?_, fun n hn hn' => ⟨1, ?_, e4 n (by simp only [sz] at hn; omega) hn'⟩⟩
          · rw [hev.toL, h2]
          · simp only [hev.sz, sz] at h3 ⊢; omega
          · simp only [hev.sz, sz] at h3 ⊢; omega

set_option maxHeartbeats 1000000 in
theorem cut_spec (m : Nat) (key : ByteArray) (rt : Option Addr) : ∀ (t : Tr Ow) (a : Option Addr) (n : Int), Hk t → sz t < 549755813888 → Srt (toL t) →
    Fsp Try.prog 57 [.pointer (some ⟨m, 0, none⟩), .pointer a, .string key] [Cl m 90 [.pointer rt, .int .i64 n], TrA a t]
      fun u aa' => ∃ a', u = .pointer a' ∧ aa' = [Cl m 90 [.pointer rt, .int .i64 (subN key t n)], TrA a' (cutT key t)] := by
  intro t
  induction t with
  | nil =>
    intro a n _ _ _
    refine spec_of F57.ok rfl fun gl X => ?_
    dsimp only [List.cons_append, List.nil_append]
    refine en_nil (by repeat (first | with_reducible exact Pk.h | with_reducible apply Pk.t)) ?_
    rintro rfl
    (repeat (first | ((with_reducible apply t_run); exact rfl) | ((with_reducible apply t_p); exact rfl; exact rfl) | ((with_reducible apply t_gr); exact rfl) | ((with_reducible apply t_ge); exact rfl) | ((with_reducible apply t_ld); exact rfl; exact rfl; (repeat (first | with_reducible exact Pk.h | with_reducible apply Pk.t)); exact rfl) | ((with_reducible apply t_st); exact rfl; exact rfl; exact rfl; (repeat (first | with_reducible exact Pk.h | with_reducible apply Pk.t)); exact rfl; exact rfl; exact Nat.le_of_ble_eq_true rfl; exact rfl; (repeat (first | apply rk_nil | (apply rk_skip; exact rfl) | (apply rk_ld; exact rfl; (repeat (first | with_reducible exact Pk.h | with_reducible apply Pk.t)); exact rfl)))) | ((with_reducible apply t_nx F57.k); exact rfl; exact rfl) | with_reducible apply m_seq | (with_reducible apply m_reg mix) | with_reducible apply m_block | ((with_reducible apply m_ct); exact rfl) | ((with_reducible apply m_cf); exact rfl) | ((with_reducible apply m_skn); exact rfl) | ((with_reducible apply m_exn); exact rfl)))
    apply m_ret
    · rfl
    · (repeat (first | apply rs_nil | (apply rs_tmp; exact rfl) | (apply rs_cell; exact rfl; (repeat (first | with_reducible exact Pk.h | with_reducible apply Pk.t)); exact rfl)))
    · exact ⟨_, rfl, rfl⟩
    · exact (by repeat (first | apply Sx.nil | apply Pk.h | apply Sx.cons | apply Pk.t))
  | node k v hi l r ihl ihr =>
    intro a n hk hs hsrt
    have hsl : Srt (toL l) := (List.pairwise_append.1 hsrt).1
    have hsr : Srt (toL r) := (List.pairwise_cons.1 (List.pairwise_append.1 hsrt).2.1).2
    simp only [sz] at hs
    refine spec_of F57.ok rfl fun gl X => ?_
    dsimp only [List.cons_append, List.nil_append]
    refine en_tree (by repeat (first | with_reducible exact Pk.h | with_reducible apply Pk.t)) ?_
    rintro b al ar rfl
    (repeat (first | ((with_reducible apply t_run); exact rfl) | ((with_reducible apply t_p); exact rfl; exact rfl) | ((with_reducible apply t_gr); exact rfl) | ((with_reducible apply t_ge); exact rfl) | ((with_reducible apply t_ld); exact rfl; exact rfl; (repeat (first | with_reducible exact Pk.h | with_reducible apply Pk.t)); exact rfl) | ((with_reducible apply t_st); exact rfl; exact rfl; exact rfl; (repeat (first | with_reducible exact Pk.h | with_reducible apply Pk.t)); exact rfl; exact rfl; exact Nat.le_of_ble_eq_true rfl; exact rfl; (repeat (first | apply rk_nil | (apply rk_skip; exact rfl) | (apply rk_ld; exact rfl; (repeat (first | with_reducible exact Pk.h | with_reducible apply Pk.t)); exact rfl)))) | ((with_reducible apply t_nx F57.k); exact rfl; exact rfl) | with_reducible apply m_seq | (with_reducible apply m_reg mix) | with_reducible apply m_block | ((with_reducible apply m_ct); exact rfl) | ((with_reducible apply m_cf); exact rfl) | ((with_reducible apply m_skn); exact rfl) | ((with_reducible apply m_exn); exact rfl)))
    refine m_cond rfl (fun hb => ?_) (fun hb => ?_)
    · have e1 : cutT key (.node k v hi l r) = even k v (cutT key l) r := by simp only [cutT]; rw [if_pos hb]
      have e2 : subN key (.node k v hi l r) n = subN key l n := by simp only [subN]; rw [if_pos hb]
      have hc := cut_ok key l hk.2.1 (by omega) hsl
      have hev := evOk_of hc.1 hk.2.2 (by have := hc.2.2.1; omega)
      rw [e1, e2]
      clear e1 e2 hc
      (repeat (first | ((with_reducible apply t_run); exact rfl) | ((with_reducible apply t_p); exact rfl; exact rfl) | ((with_reducible apply t_gr); exact rfl) | ((with_reducible apply t_ge); exact rfl) | ((with_reducible apply t_ld); exact rfl; exact rfl; (repeat (first | with_reducible exact Pk.h | with_reducible apply Pk.t)); exact rfl) | ((with_reducible apply t_st); exact rfl; exact rfl; exact rfl; (repeat (first | with_reducible exact Pk.h | with_reducible apply Pk.t)); exact rfl; exact rfl; exact Nat.le_of_ble_eq_true rfl; exact rfl; (repeat (first | apply rk_nil | (apply rk_skip; exact rfl) | (apply rk_ld; exact rfl; (repeat (first | with_reducible exact Pk.h | with_reducible apply Pk.t)); exact rfl)))) | ((with_reducible apply t_nx F57.k); exact rfl; exact rfl) | with_reducible apply m_seq | (with_reducible apply m_reg mix) | with_reducible apply m_block | ((with_reducible apply m_ct); exact rfl) | ((with_reducible apply m_cf); exact rfl) | ((with_reducible apply m_skn); exact rfl) | ((with_reducible apply m_exn); exact rfl)))
      refine t_cl rfl rfl (ihl al n hk.2.1 (by omega) hsl) (by repeat (first | apply Sx.nil | apply Pk.h | apply Sx.cons | apply Pk.t)) ?_
      rintro _ _ ⟨a', rfl, rfl⟩
      refine ⟨?_, ?_⟩ <;> (try dsimp only [List.cons_append, List.nil_append])
      · (repeat (first | apply rk_nil | (apply rk_skip; exact rfl) | (apply rk_ld; exact rfl; (repeat (first | with_reducible exact Pk.h | with_reducible apply Pk.t)); exact rfl)))
      (repeat (first | ((with_reducible apply t_run); exact rfl) | ((with_reducible apply t_p); exact rfl; exact rfl) | ((with_reducible apply t_gr); exact rfl) | ((with_reducible apply t_ge); exact rfl) | ((with_reducible apply t_ld); exact rfl; exact rfl; (repeat (first | with_reducible exact Pk.h | with_reducible apply Pk.t)); exact rfl) | ((with_reducible apply t_st); exact rfl; exact rfl; exact rfl; (repeat (first | with_reducible exact Pk.h | with_reducible apply Pk.t)); exact rfl; exact rfl; exact Nat.le_of_ble_eq_true rfl; exact rfl; (repeat (first | apply rk_nil | (apply rk_skip; exact rfl) | (apply rk_ld; exact rfl; (repeat (first | with_reducible exact Pk.h | with_reducible apply Pk.t)); exact rfl)))) | ((with_reducible apply t_nx F57.k); exact rfl; exact rfl) | with_reducible apply m_seq | (with_reducible apply m_reg mix) | with_reducible apply m_block | ((with_reducible apply m_ct); exact rfl) | ((with_reducible apply m_cf); exact rfl) | ((with_reducible apply m_skn); exact rfl) | ((with_reducible apply m_exn); exact rfl)))
      refine en_node (b := b) (l := cutT key l) (r := r) (by repeat (first | apply Sx.nil | apply Pk.h | apply Sx.cons | apply Pk.t)) ?_
      refine t_cl rfl rfl (even_spec (some ⟨b, 0, none⟩) k v _ _ _ hev) (by repeat (first | apply Sx.nil | apply Pk.h | apply Sx.cons | apply Pk.t)) ?_
      rintro _ _ ⟨a2, rfl, rfl⟩
      refine ⟨?_, ?_⟩ <;> (try dsimp only [List.cons_append, List.nil_append])
      · (repeat (first | apply rk_nil | (apply rk_skip; exact rfl) | (apply rk_ld; exact rfl; (repeat (first | with_reducible exact Pk.h | with_reducible apply Pk.t)); exact rfl)))
      (repeat (first | ((with_reducible apply t_run); exact rfl) | ((with_reducible apply t_p); exact rfl; exact rfl) | ((with_reducible apply t_gr); exact rfl) | ((with_reducible apply t_ge); exact rfl) | ((with_reducible apply t_ld); exact rfl; exact rfl; (repeat (first | with_reducible exact Pk.h | with_reducible apply Pk.t)); exact rfl) | ((with_reducible apply t_st); exact rfl; exact rfl; exact rfl; (repeat (first | with_reducible exact Pk.h | with_reducible apply Pk.t)); exact rfl; exact rfl; exact Nat.le_of_ble_eq_true rfl; exact rfl; (repeat (first | apply rk_nil | (apply rk_skip; exact rfl) | (apply rk_ld; exact rfl; (repeat (first | with_reducible exact Pk.h | with_reducible apply Pk.t)); exact rfl)))) | ((with_reducible apply t_nx F57.k); exact rfl; exact rfl) | with_reducible apply m_seq | (with_reducible apply m_reg mix) | with_reducible apply m_block | ((with_reducible apply m_ct); exact rfl) | ((with_reducible apply m_cf); exact rfl) | ((with_reducible apply m_skn); exact rfl) | ((with_reducible apply m_exn); exact rfl)))
      apply m_ret
      · rfl
      · (repeat (first | apply rs_nil | (apply rs_tmp; exact rfl) | (apply rs_cell; exact rfl; (repeat (first | with_reducible exact Pk.h | with_reducible apply Pk.t)); exact rfl)))
      · exact ⟨_, rfl, rfl⟩
      · exact (by repeat (first | apply Sx.nil | apply Pk.h | apply Sx.cons | apply Pk.t))
    · (repeat (first | ((with_reducible apply t_run); exact rfl) | ((with_reducible apply t_p); exact rfl; exact rfl) | ((with_reducible apply t_gr); exact rfl) | ((with_reducible apply t_ge); exact rfl) | ((with_reducible apply t_ld); exact rfl; exact rfl; (repeat (first | with_reducible exact Pk.h | with_reducible apply Pk.t)); exact rfl) | ((with_reducible apply t_st); exact rfl; exact rfl; exact rfl; (repeat (first | with_reducible exact Pk.h | with_reducible apply Pk.t)); exact rfl; exact rfl; exact Nat.le_of_ble_eq_true rfl; exact rfl; (repeat (first | apply rk_nil | (apply rk_skip; exact rfl) | (apply rk_ld; exact rfl; (repeat (first | with_reducible exact Pk.h | with_reducible apply Pk.t)); exact rfl)))) | ((with_reducible apply t_nx F57.k); exact rfl; exact rfl) | with_reducible apply m_seq | (with_reducible apply m_reg mix) | with_reducible apply m_block | ((with_reducible apply m_ct); exact rfl) | ((with_reducible apply m_cf); exact rfl) | ((with_reducible apply m_skn); exact rfl) | ((with_reducible apply m_exn); exact rfl)))
      refine m_cond rfl (fun hb2 => ?_) (fun hb2 => ?_)
      · have e1 : cutT key (.node k v hi l r) = even k v l (cutT key r) := by simp only [cutT]; rw [if_neg (by simp [hb]), if_pos hb2]
        have e2 : subN key (.node k v hi l r) n = subN key r n := by simp only [subN]; rw [if_neg (by simp [hb]), if_pos hb2]
        have hc := cut_ok key r hk.2.2 (by omega) hsr
        have hev := evOk_of hk.2.1 hc.1 (by have := hc.2.2.1; omega)
        rw [e1, e2]
        clear e1 e2 hc
        (repeat (first | ((with_reducible apply t_run); exact rfl) | ((with_reducible apply t_p); exact rfl; exact rfl) | ((with_reducible apply t_gr); exact rfl) | ((with_reducible apply t_ge); exact rfl) | ((with_reducible apply t_ld); exact rfl; exact rfl; (repeat (first | with_reducible exact Pk.h | with_reducible apply Pk.t)); exact rfl) | ((with_reducible apply t_st); exact rfl; exact rfl; exact rfl; (repeat (first | with_reducible exact Pk.h | with_reducible apply Pk.t)); exact rfl; exact rfl; exact Nat.le_of_ble_eq_true rfl; exact rfl; (repeat (first | apply rk_nil | (apply rk_skip; exact rfl) | (apply rk_ld; exact rfl; (repeat (first | with_reducible exact Pk.h | with_reducible apply Pk.t)); exact rfl)))) | ((with_reducible apply t_nx F57.k); exact rfl; exact rfl) | with_reducible apply m_seq | (with_reducible apply m_reg mix) | with_reducible apply m_block | ((with_reducible apply m_ct); exact rfl) | ((with_reducible apply m_cf); exact rfl) | ((with_reducible apply m_skn); exact rfl) | ((with_reducible apply m_exn); exact rfl)))
        refine t_cl rfl rfl (ihr ar n hk.2.2 (by omega) hsr) (by repeat (first | apply Sx.nil | apply Pk.h | apply Sx.cons | apply Pk.t)) ?_
        rintro _ _ ⟨a', rfl, rfl⟩
        refine ⟨?_, ?_⟩ <;> (try dsimp only [List.cons_append, List.nil_append])
        · (repeat (first | apply rk_nil | (apply rk_skip; exact rfl) | (apply rk_ld; exact rfl; (repeat (first | with_reducible exact Pk.h | with_reducible apply Pk.t)); exact rfl)))
        (repeat (first | ((with_reducible apply t_run); exact rfl) | ((with_reducible apply t_p); exact rfl; exact rfl) | ((with_reducible apply t_gr); exact rfl) | ((with_reducible apply t_ge); exact rfl) | ((with_reducible apply t_ld); exact rfl; exact rfl; (repeat (first | with_reducible exact Pk.h | with_reducible apply Pk.t)); exact rfl) | ((with_reducible apply t_st); exact rfl; exact rfl; exact rfl; (repeat (first | with_reducible exact Pk.h | with_reducible apply Pk.t)); exact rfl; exact rfl; exact Nat.le_of_ble_eq_true rfl; exact rfl; (repeat (first | apply rk_nil | (apply rk_skip; exact rfl) | (apply rk_ld; exact rfl; (repeat (first | with_reducible exact Pk.h | with_reducible apply Pk.t)); exact rfl)))) | ((with_reducible apply t_nx F57.k); exact rfl; exact rfl) | with_reducible apply m_seq | (with_reducible apply m_reg mix) | with_reducible apply m_block | ((with_reducible apply m_ct); exact rfl) | ((with_reducible apply m_cf); exact rfl) | ((with_reducible apply m_skn); exact rfl) | ((with_reducible apply m_exn); exact rfl)))
        refine en_node (b := b) (l := l) (r := cutT key r) (by repeat (first | apply Sx.nil | apply Pk.h | apply Sx.cons | apply Pk.t)) ?_
        refine t_cl rfl rfl (even_spec (some ⟨b, 0, none⟩) k v _ _ _ hev) (by repeat (first | apply Sx.nil | apply Pk.h | apply Sx.cons | apply Pk.t)) ?_
        rintro _ _ ⟨a2, rfl, rfl⟩
        refine ⟨?_, ?_⟩ <;> (try dsimp only [List.cons_append, List.nil_append])
        · (repeat (first | apply rk_nil | (apply rk_skip; exact rfl) | (apply rk_ld; exact rfl; (repeat (first | with_reducible exact Pk.h | with_reducible apply Pk.t)); exact rfl)))
        (repeat (first | ((with_reducible apply t_run); exact rfl) | ((with_reducible apply t_p); exact rfl; exact rfl) | ((with_reducible apply t_gr); exact rfl) | ((with_reducible apply t_ge); exact rfl) | ((with_reducible apply t_ld); exact rfl; exact rfl; (repeat (first | with_reducible exact Pk.h | with_reducible apply Pk.t)); exact rfl) | ((with_reducible apply t_st); exact rfl; exact rfl; exact rfl; (repeat (first | with_reducible exact Pk.h | with_reducible apply Pk.t)); exact rfl; exact rfl; exact Nat.le_of_ble_eq_true rfl; exact rfl; (repeat (first | apply rk_nil | (apply rk_skip; exact rfl) | (apply rk_ld; exact rfl; (repeat (first | with_reducible exact Pk.h | with_reducible apply Pk.t)); exact rfl)))) | ((with_reducible apply t_nx F57.k); exact rfl; exact rfl) | with_reducible apply m_seq | (with_reducible apply m_reg mix) | with_reducible apply m_block | ((with_reducible apply m_ct); exact rfl) | ((with_reducible apply m_cf); exact rfl) | ((with_reducible apply m_skn); exact rfl) | ((with_reducible apply m_exn); exact rfl)))
        apply m_ret
        · rfl
        · (repeat (first | apply rs_nil | (apply rs_tmp; exact rfl) | (apply rs_cell; exact rfl; (repeat (first | with_reducible exact Pk.h | with_reducible apply Pk.t)); exact rfl)))
        · exact ⟨_, rfl, rfl⟩
        · exact (by repeat (first | apply Sx.nil | apply Pk.h | apply Sx.cons | apply Pk.t))
      · have e2 : subN key (.node k v hi l r) n = IntKind.i64.wrap (n - 1) := by simp only [subN]; rw [if_neg (by simp [hb]), if_neg (by simp [hb2])]
        rw [e2]
        clear e2
        cases r with
        | nil =>
          have e1 : cutT key (.node k v hi l .nil) = l := by simp only [cutT]; rw [if_neg (by simp [hb]), if_neg (by simp [hb2])]
          rw [e1]
          clear e1
          refine en_nil (a := ar) (by repeat (first | with_reducible exact Pk.h | with_reducible apply Pk.t)) ?_
          rintro rfl
          (repeat (first | ((with_reducible apply t_run); exact rfl) | ((with_reducible apply t_p); exact rfl; exact rfl) | ((with_reducible apply t_gr); exact rfl) | ((with_reducible apply t_ge); exact rfl) | ((with_reducible apply t_ld); exact rfl; exact rfl; (repeat (first | with_reducible exact Pk.h | with_reducible apply Pk.t)); exact rfl) | ((with_reducible apply t_st); exact rfl; exact rfl; exact rfl; (repeat (first | with_reducible exact Pk.h | with_reducible apply Pk.t)); exact rfl; exact rfl; exact Nat.le_of_ble_eq_true rfl; exact rfl; (repeat (first | apply rk_nil | (apply rk_skip; exact rfl) | (apply rk_ld; exact rfl; (repeat (first | with_reducible exact Pk.h | with_reducible apply Pk.t)); exact rfl)))) | ((with_reducible apply t_nx F57.k); exact rfl; exact rfl) | with_reducible apply m_seq | (with_reducible apply m_reg mix) | with_reducible apply m_block | ((with_reducible apply m_ct); exact rfl) | ((with_reducible apply m_cf); exact rfl) | ((with_reducible apply m_skn); exact rfl) | ((with_reducible apply m_exn); exact rfl)))
          apply m_ret
          · rfl
          · (repeat (first | apply rs_nil | (apply rs_tmp; exact rfl) | (apply rs_cell; exact rfl; (repeat (first | with_reducible exact Pk.h | with_reducible apply Pk.t)); exact rfl)))
          · exact ⟨_, rfl, rfl⟩
          · exact (by repeat (first | apply Sx.nil | apply Pk.h | apply Sx.cons | apply Pk.t))
        | node rk rv rh rl rr =>
          have e1 : cutT key (.node k v hi l (.node rk rv rh rl rr)) = even (popK (.node rk rv rh rl rr)).1 (popK (.node rk rv rh rl rr)).2 l (popT (.node rk rv rh rl rr)) := by simp only [cutT]; rw [if_neg (by simp [hb]), if_neg (by simp [hb2])]
          have hp := pop_ok (.node rk rv rh rl rr) hk.2.2 (by omega) rfl
          have hev := evOk_of hk.2.1 hp.1 (by have := hp.2.2; omega)
          rw [e1]
          clear e1 hp
          refine en_tree (a := ar) (by repeat (first | with_reducible exact Pk.h | with_reducible apply Pk.t)) ?_
          rintro c bl br rfl
          (repeat (first | ((with_reducible apply t_run); exact rfl) | ((with_reducible apply t_p); exact rfl; exact rfl) | ((with_reducible apply t_gr); exact rfl) | ((with_reducible apply t_ge); exact rfl) | ((with_reducible apply t_ld); exact rfl; exact rfl; (repeat (first | with_reducible exact Pk.h | with_reducible apply Pk.t)); exact rfl) | ((with_reducible apply t_st); exact rfl; exact rfl; exact rfl; (repeat (first | with_reducible exact Pk.h | with_reducible apply Pk.t)); exact rfl; exact rfl; exact Nat.le_of_ble_eq_true rfl; exact rfl; (repeat (first | apply rk_nil | (apply rk_skip; exact rfl) | (apply rk_ld; exact rfl; (repeat (first | with_reducible exact Pk.h | with_reducible apply Pk.t)); exact rfl)))) | ((with_reducible apply t_nx F57.k); exact rfl; exact rfl) | with_reducible apply m_seq | (with_reducible apply m_reg mix) | with_reducible apply m_block | ((with_reducible apply m_ct); exact rfl) | ((with_reducible apply m_cf); exact rfl) | ((with_reducible apply m_skn); exact rfl) | ((with_reducible apply m_exn); exact rfl)))
          refine en_node (b := c) (k := rk) (l := rl) (r := rr) (by repeat (first | apply Sx.nil | apply Pk.h | apply Sx.cons | apply Pk.t)) ?_
          refine t_cl rfl rfl (first_spec (.node rk rv rh rl rr) (some ⟨c, 0, none⟩) hk.2.2 (by omega) rfl) (by repeat (first | apply Sx.nil | apply Pk.h | apply Sx.cons | apply Pk.t)) ?_
          rintro _ _ ⟨a', x, hi', ar', rfl, rfl⟩
          refine ⟨?_, ?_⟩ <;> (try dsimp only [List.cons_append, List.nil_append])
          · (repeat (first | apply rk_nil | (apply rk_skip; exact rfl) | (apply rk_ld; exact rfl; (repeat (first | with_reducible exact Pk.h | with_reducible apply Pk.t)); exact rfl)))
          (repeat (first | ((with_reducible apply t_run); exact rfl) | ((with_reducible apply t_p); exact rfl; exact rfl) | ((with_reducible apply t_gr); exact rfl) | ((with_reducible apply t_ge); exact rfl) | ((with_reducible apply t_ld); exact rfl; exact rfl; (repeat (first | with_reducible exact Pk.h | with_reducible apply Pk.t)); exact rfl) | ((with_reducible apply t_st); exact rfl; exact rfl; exact rfl; (repeat (first | with_reducible exact Pk.h | with_reducible apply Pk.t)); exact rfl; exact rfl; exact Nat.le_of_ble_eq_true rfl; exact rfl; (repeat (first | apply rk_nil | (apply rk_skip; exact rfl) | (apply rk_ld; exact rfl; (repeat (first | with_reducible exact Pk.h | with_reducible apply Pk.t)); exact rfl)))) | ((with_reducible apply t_nx F57.k); exact rfl; exact rfl) | with_reducible apply m_seq | (with_reducible apply m_reg mix) | with_reducible apply m_block | ((with_reducible apply m_ct); exact rfl) | ((with_reducible apply m_cf); exact rfl) | ((with_reducible apply m_skn); exact rfl) | ((with_reducible apply m_exn); exact rfl)))
          refine en_node (b := x) (k := (popK (.node rk rv rh rl rr)).1) (v := (popK (.node rk rv rh rl rr)).2) (l := l) (r := popT (.node rk rv rh rl rr)) (by repeat (first | apply Sx.nil | apply Pk.h | apply Sx.cons | apply Pk.t)) ?_
          refine t_cl rfl rfl (even_spec (some ⟨x, 0, none⟩) _ _ _ _ _ hev) (by repeat (first | apply Sx.nil | apply Pk.h | apply Sx.cons | apply Pk.t)) ?_
          rintro _ _ ⟨a2, rfl, rfl⟩
          refine ⟨?_, ?_⟩ <;> (try dsimp only [List.cons_append, List.nil_append])
          · (repeat (first | apply rk_nil | (apply rk_skip; exact rfl) | (apply rk_ld; exact rfl; (repeat (first | with_reducible exact Pk.h | with_reducible apply Pk.t)); exact rfl)))
          (repeat (first | ((with_reducible apply t_run); exact rfl) | ((with_reducible apply t_p); exact rfl; exact rfl) | ((with_reducible apply t_gr); exact rfl) | ((with_reducible apply t_ge); exact rfl) | ((with_reducible apply t_ld); exact rfl; exact rfl; (repeat (first | with_reducible exact Pk.h | with_reducible apply Pk.t)); exact rfl) | ((with_reducible apply t_st); exact rfl; exact rfl; exact rfl; (repeat (first | with_reducible exact Pk.h | with_reducible apply Pk.t)); exact rfl; exact rfl; exact Nat.le_of_ble_eq_true rfl; exact rfl; (repeat (first | apply rk_nil | (apply rk_skip; exact rfl) | (apply rk_ld; exact rfl; (repeat (first | with_reducible exact Pk.h | with_reducible apply Pk.t)); exact rfl)))) | ((with_reducible apply t_nx F57.k); exact rfl; exact rfl) | with_reducible apply m_seq | (with_reducible apply m_reg mix) | with_reducible apply m_block | ((with_reducible apply m_ct); exact rfl) | ((with_reducible apply m_cf); exact rfl) | ((with_reducible apply m_skn); exact rfl) | ((with_reducible apply m_exn); exact rfl)))
          apply m_ret
          · rfl
          · (repeat (first | apply rs_nil | (apply rs_tmp; exact rfl) | (apply rs_cell; exact rfl; (repeat (first | with_reducible exact Pk.h | with_reducible apply Pk.t)); exact rfl)))
          · exact ⟨_, rfl, rfl⟩
          · exact (by repeat (first | apply Sx.nil | apply Pk.h | apply Sx.cons | apply Pk.t))
end Go.Proofs.Ythcbefkgfhokoaa
