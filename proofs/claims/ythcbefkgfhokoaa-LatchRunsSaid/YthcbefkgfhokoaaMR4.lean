/- Parts BF BG BH BI BJ BK C0 C1 Sf BL BM of the proof. -/
import Derived.Test.YthcbefkgfhokoaaMR3
import Derived.Shelf.SlSortCmp.WholeK
import Derived.Shelf.SlGeneric
import Derived.Ground.SlsfProg
import Derived.Test.YthcbefkgfhokoaaProg
/- Cut; Raise; what is on the way; all. -/
namespace Go.Proofs.Ythcbefkgfhokoaa
open Go Go.Dv
set_option maxRecDepth 100000
attribute [local irreducible] HTh HM En Fsp TrA Cl MpA OwS RdS MpO TabA HsA

theorem sl104 : slI Try.prog 104 = some (28, 2, 16, [.int .u64 0, .int .u32 0]) := by kernel_rfl

theorem Raise_none (t : Nat) (hs : List Hold) (keys : KL) (tx : Tx) (s : Sm) (hok : tx.ok) (hn : ∀ x ∈ hs, x.tx ≠ tx) :
    Fsp Try.prog 16 [.pointer (some ⟨t, 0, none⟩), tx.V, s.V] [TabA t hs keys] fun u aa' => u = .bool false ∧ aa' = [TabA t hs keys] := by
  have hko := keyOk25 hok
  have hno := ent_no hn
  obtain ⟨c, n⟩ := tx
  obtain ⟨p, l⟩ := s
  refine spec_of F16.ok rfl fun gl X => ?_
  dsimp only [List.cons_append, List.nil_append]
  simp only [Tx.V, Sm.V] at hko hno ⊢
  refine en_tab (by repeat (first | with_reducible exact Pk.h | with_reducible apply Pk.t)) fun hb m => ?_
  (repeat (first | ((with_reducible apply t_run); exact rfl) | ((with_reducible apply t_p); exact rfl; exact rfl) | ((with_reducible apply t_gr); exact rfl) | ((with_reducible apply t_ge); exact rfl) | ((with_reducible apply t_ld); exact rfl; exact rfl; (repeat (first | with_reducible exact Pk.h | with_reducible apply Pk.t)); exact rfl) | ((with_reducible apply t_st); exact rfl; exact rfl; exact rfl; (repeat (first | with_reducible exact Pk.h | with_reducible apply Pk.t)); exact rfl; exact rfl; exact Nat.le_of_ble_eq_true rfl; exact rfl; (repeat (first | apply rk_nil | (apply rk_skip; exact rfl) | (apply rk_ld; exact rfl; (repeat (first | with_reducible exact Pk.h | with_reducible apply Pk.t)); exact rfl)))) | ((with_reducible apply t_nx F16.k); exact rfl; exact rfl) | with_reducible apply m_seq | (with_reducible apply m_reg mix) | with_reducible apply m_block | ((with_reducible apply m_ct); exact rfl) | ((with_reducible apply m_cf); exact rfl) | ((with_reducible apply m_skn); exact rfl) | ((with_reducible apply m_exn); exact rfl)))
  refine t_bx rfl rfl rfl fun b4 => ⟨(by (repeat (first | apply rk_nil | (apply rk_skip; exact rfl) | (apply rk_ld; exact rfl; (repeat (first | with_reducible exact Pk.h | with_reducible apply Pk.t)); exact rfl)))), ?_⟩
  try dsimp only [List.cons_append, List.nil_append]
  (repeat (first | ((with_reducible apply t_run); exact rfl) | ((with_reducible apply t_p); exact rfl; exact rfl) | ((with_reducible apply t_gr); exact rfl) | ((with_reducible apply t_ge); exact rfl) | ((with_reducible apply t_ld); exact rfl; exact rfl; (repeat (first | with_reducible exact Pk.h | with_reducible apply Pk.t)); exact rfl) | ((with_reducible apply t_st); exact rfl; exact rfl; exact rfl; (repeat (first | with_reducible exact Pk.h | with_reducible apply Pk.t)); exact rfl; exact rfl; exact Nat.le_of_ble_eq_true rfl; exact rfl; (repeat (first | apply rk_nil | (apply rk_skip; exact rfl) | (apply rk_ld; exact rfl; (repeat (first | with_reducible exact Pk.h | with_reducible apply Pk.t)); exact rfl)))) | ((with_reducible apply t_nx F16.k); exact rfl; exact rfl) | with_reducible apply m_seq | (with_reducible apply m_reg mix) | with_reducible apply m_block | ((with_reducible apply m_ct); exact rfl) | ((with_reducible apply m_cf); exact rfl) | ((with_reducible apply m_skn); exact rfl) | ((with_reducible apply m_exn); exact rfl)))
  refine t_bx rfl rfl rfl fun b5 => ⟨(by (repeat (first | apply rk_nil | (apply rk_skip; exact rfl) | (apply rk_ld; exact rfl; (repeat (first | with_reducible exact Pk.h | with_reducible apply Pk.t)); exact rfl)))), ?_⟩
  try dsimp only [List.cons_append, List.nil_append]
  (repeat (first | ((with_reducible apply t_run); exact rfl) | ((with_reducible apply t_p); exact rfl; exact rfl) | ((with_reducible apply t_gr); exact rfl) | ((with_reducible apply t_ge); exact rfl) | ((with_reducible apply t_ld); exact rfl; exact rfl; (repeat (first | with_reducible exact Pk.h | with_reducible apply Pk.t)); exact rfl) | ((with_reducible apply t_st); exact rfl; exact rfl; exact rfl; (repeat (first | with_reducible exact Pk.h | with_reducible apply Pk.t)); exact rfl; exact rfl; exact Nat.le_of_ble_eq_true rfl; exact rfl; (repeat (first | apply rk_nil | (apply rk_skip; exact rfl) | (apply rk_ld; exact rfl; (repeat (first | with_reducible exact Pk.h | with_reducible apply Pk.t)); exact rfl)))) | ((with_reducible apply t_nx F16.k); exact rfl; exact rfl) | with_reducible apply m_seq | (with_reducible apply m_reg mix) | with_reducible apply m_block | ((with_reducible apply m_ct); exact rfl) | ((with_reducible apply m_cf); exact rfl) | ((with_reducible apply m_skn); exact rfl) | ((with_reducible apply m_exn); exact rfl)))
  refine t_r (v := .pointer none) rfl (look_rv ktx und59 (zrun und71) rfl rfl hko (by repeat (first | with_reducible exact Pk.h | with_reducible apply Pk.t)) (.inl ⟨hno, rfl⟩)) ?_
  (repeat (first | ((with_reducible apply t_run); exact rfl) | ((with_reducible apply t_p); exact rfl; exact rfl) | ((with_reducible apply t_gr); exact rfl) | ((with_reducible apply t_ge); exact rfl) | ((with_reducible apply t_ld); exact rfl; exact rfl; (repeat (first | with_reducible exact Pk.h | with_reducible apply Pk.t)); exact rfl) | ((with_reducible apply t_st); exact rfl; exact rfl; exact rfl; (repeat (first | with_reducible exact Pk.h | with_reducible apply Pk.t)); exact rfl; exact rfl; exact Nat.le_of_ble_eq_true rfl; exact rfl; (repeat (first | apply rk_nil | (apply rk_skip; exact rfl) | (apply rk_ld; exact rfl; (repeat (first | with_reducible exact Pk.h | with_reducible apply Pk.t)); exact rfl)))) | ((with_reducible apply t_nx F16.k); exact rfl; exact rfl) | with_reducible apply m_seq | (with_reducible apply m_reg mix) | with_reducible apply m_block | ((with_reducible apply m_ct); exact rfl) | ((with_reducible apply m_cf); exact rfl) | ((with_reducible apply m_skn); exact rfl) | ((with_reducible apply m_exn); exact rfl)))
  refine en_mktab (t := t) (hb := hb) (m := m) (hs := hs) (keys := keys) (by repeat (first | apply Sx.nil | apply Pk.h | apply Sx.cons | apply Pk.t)) ?_
  apply m_ret
  · rfl
  · (repeat (first | apply rs_nil | (apply rs_tmp; exact rfl) | (apply rs_cell; exact rfl; (repeat (first | with_reducible exact Pk.h | with_reducible apply Pk.t)); exact rfl)))
  · exact ⟨rfl, rfl⟩
  · exact (by repeat (first | apply Sx.nil | apply Pk.h | apply Sx.cons | apply Pk.t))

def Hold.raise (x : Hold) (s : Sm) : Hold := { x with hd := { x.hd with min := maxS (maxS ⟨0, 0⟩ x.hd.min) s } }
theorem Raise_some (t : Nat) (l1 l2 : List Hold) (keys : KL) (x : Hold) (s : Sm) (hok : x.tx.ok) :
    Fsp Try.prog 16 [.pointer (some ⟨t, 0, none⟩), x.tx.V, s.V] [TabA t (l1 ++ x :: l2) keys] fun u aa' => u = .bool s.ok ∧ aa' = [TabA t (if s.ok then l1 ++ x.raise s :: l2 else l1 ++ x :: l2) keys] := by
  have hko := keyOk25 hok
  have hmem := ent_mem (x := x) (hs := l1 ++ x :: l2) (by simp)
  refine spec_of F16.ok rfl fun gl X => ?_
  dsimp only [List.cons_append, List.nil_append]
  refine en_tab (by repeat (first | with_reducible exact Pk.h | with_reducible apply Pk.t)) fun hb m => ?_
  refine en_pick (by repeat (first | with_reducible exact Pk.h | with_reducible apply Pk.t)) ?_
  have hent : entL (l1 ++ x.raise s :: l2) = entL (l1 ++ x :: l2) := by simp [entL, Hold.raise]
  obtain ⟨⟨tc, tn⟩, xb, ⟨⟨sp, sl⟩, ⟨mp, ml⟩, pr⟩, ws, v⟩ := x
  have hrs := Right_spec s
  obtain ⟨p, l⟩ := s
  dsimp only at hko hmem ⊢
  simp only [Tx.V, Sm.V, hdC] at hko hmem hrs ⊢
  generalize hX : (Hold.mk ⟨tc, tn⟩ xb ⟨⟨sp, sl⟩, ⟨mp, ml⟩, pr⟩ ws v) = Y at hmem hent ⊢
  (repeat (first | ((with_reducible apply t_run); exact rfl) | ((with_reducible apply t_p); exact rfl; exact rfl) | ((with_reducible apply t_gr); exact rfl) | ((with_reducible apply t_ge); exact rfl) | ((with_reducible apply t_ld); exact rfl; exact rfl; (repeat (first | with_reducible exact Pk.h | with_reducible apply Pk.t)); exact rfl) | ((with_reducible apply t_st); exact rfl; exact rfl; exact rfl; (repeat (first | with_reducible exact Pk.h | with_reducible apply Pk.t)); exact rfl; exact rfl; exact Nat.le_of_ble_eq_true rfl; exact rfl; (repeat (first | apply rk_nil | (apply rk_skip; exact rfl) | (apply rk_ld; exact rfl; (repeat (first | with_reducible exact Pk.h | with_reducible apply Pk.t)); exact rfl)))) | ((with_reducible apply t_nx F16.k); exact rfl; exact rfl) | with_reducible apply m_seq | (with_reducible apply m_reg mix) | with_reducible apply m_block | ((with_reducible apply m_ct); exact rfl) | ((with_reducible apply m_cf); exact rfl) | ((with_reducible apply m_skn); exact rfl) | ((with_reducible apply m_exn); exact rfl)))
  refine t_bx rfl rfl rfl fun b4 => ⟨(by (repeat (first | apply rk_nil | (apply rk_skip; exact rfl) | (apply rk_ld; exact rfl; (repeat (first | with_reducible exact Pk.h | with_reducible apply Pk.t)); exact rfl)))), ?_⟩
  try dsimp only [List.cons_append, List.nil_append]
  (repeat (first | ((with_reducible apply t_run); exact rfl) | ((with_reducible apply t_p); exact rfl; exact rfl) | ((with_reducible apply t_gr); exact rfl) | ((with_reducible apply t_ge); exact rfl) | ((with_reducible apply t_ld); exact rfl; exact rfl; (repeat (first | with_reducible exact Pk.h | with_reducible apply Pk.t)); exact rfl) | ((with_reducible apply t_st); exact rfl; exact rfl; exact rfl; (repeat (first | with_reducible exact Pk.h | with_reducible apply Pk.t)); exact rfl; exact rfl; exact Nat.le_of_ble_eq_true rfl; exact rfl; (repeat (first | apply rk_nil | (apply rk_skip; exact rfl) | (apply rk_ld; exact rfl; (repeat (first | with_reducible exact Pk.h | with_reducible apply Pk.t)); exact rfl)))) | ((with_reducible apply t_nx F16.k); exact rfl; exact rfl) | with_reducible apply m_seq | (with_reducible apply m_reg mix) | with_reducible apply m_block | ((with_reducible apply m_ct); exact rfl) | ((with_reducible apply m_cf); exact rfl) | ((with_reducible apply m_skn); exact rfl) | ((with_reducible apply m_exn); exact rfl)))
  refine t_bx rfl rfl rfl fun b5 => ⟨(by (repeat (first | apply rk_nil | (apply rk_skip; exact rfl) | (apply rk_ld; exact rfl; (repeat (first | with_reducible exact Pk.h | with_reducible apply Pk.t)); exact rfl)))), ?_⟩
  try dsimp only [List.cons_append, List.nil_append]
  (repeat (first | ((with_reducible apply t_run); exact rfl) | ((with_reducible apply t_p); exact rfl; exact rfl) | ((with_reducible apply t_gr); exact rfl) | ((with_reducible apply t_ge); exact rfl) | ((with_reducible apply t_ld); exact rfl; exact rfl; (repeat (first | with_reducible exact Pk.h | with_reducible apply Pk.t)); exact rfl) | ((with_reducible apply t_st); exact rfl; exact rfl; exact rfl; (repeat (first | with_reducible exact Pk.h | with_reducible apply Pk.t)); exact rfl; exact rfl; exact Nat.le_of_ble_eq_true rfl; exact rfl; (repeat (first | apply rk_nil | (apply rk_skip; exact rfl) | (apply rk_ld; exact rfl; (repeat (first | with_reducible exact Pk.h | with_reducible apply Pk.t)); exact rfl)))) | ((with_reducible apply t_nx F16.k); exact rfl; exact rfl) | with_reducible apply m_seq | (with_reducible apply m_reg mix) | with_reducible apply m_block | ((with_reducible apply m_ct); exact rfl) | ((with_reducible apply m_cf); exact rfl) | ((with_reducible apply m_skn); exact rfl) | ((with_reducible apply m_exn); exact rfl)))
  refine t_r (v := .pointer (some ⟨xb, 0, none⟩)) rfl (look_rv ktx und59 (zrun und71) rfl rfl hko (by repeat (first | with_reducible exact Pk.h | with_reducible apply Pk.t)) (.inr hmem)) ?_
  (repeat (first | ((with_reducible apply t_run); exact rfl) | ((with_reducible apply t_p); exact rfl; exact rfl) | ((with_reducible apply t_gr); exact rfl) | ((with_reducible apply t_ge); exact rfl) | ((with_reducible apply t_ld); exact rfl; exact rfl; (repeat (first | with_reducible exact Pk.h | with_reducible apply Pk.t)); exact rfl) | ((with_reducible apply t_st); exact rfl; exact rfl; exact rfl; (repeat (first | with_reducible exact Pk.h | with_reducible apply Pk.t)); exact rfl; exact rfl; exact Nat.le_of_ble_eq_true rfl; exact rfl; (repeat (first | apply rk_nil | (apply rk_skip; exact rfl) | (apply rk_ld; exact rfl; (repeat (first | with_reducible exact Pk.h | with_reducible apply Pk.t)); exact rfl)))) | ((with_reducible apply t_nx F16.k); exact rfl; exact rfl) | with_reducible apply m_seq | (with_reducible apply m_reg mix) | with_reducible apply m_block | ((with_reducible apply m_ct); exact rfl) | ((with_reducible apply m_cf); exact rfl) | ((with_reducible apply m_skn); exact rfl) | ((with_reducible apply m_exn); exact rfl)))
  refine t_cl rfl rfl (hrs) (by repeat (first | apply Sx.nil | apply Pk.h | apply Sx.cons | apply Pk.t)) ?_
  rintro _ _ ⟨rfl, rfl⟩
  refine ⟨?_, ?_⟩ <;> (try dsimp only [List.cons_append, List.nil_append])
  · (repeat (first | apply rk_nil | (apply rk_skip; exact rfl) | (apply rk_ld; exact rfl; (repeat (first | with_reducible exact Pk.h | with_reducible apply Pk.t)); exact rfl)))
  (repeat (first | ((with_reducible apply t_run); exact rfl) | ((with_reducible apply t_p); exact rfl; exact rfl) | ((with_reducible apply t_gr); exact rfl) | ((with_reducible apply t_ge); exact rfl) | ((with_reducible apply t_ld); exact rfl; exact rfl; (repeat (first | with_reducible exact Pk.h | with_reducible apply Pk.t)); exact rfl) | ((with_reducible apply t_st); exact rfl; exact rfl; exact rfl; (repeat (first | with_reducible exact Pk.h | with_reducible apply Pk.t)); exact rfl; exact rfl; exact Nat.le_of_ble_eq_true rfl; exact rfl; (repeat (first | apply rk_nil | (apply rk_skip; exact rfl) | (apply rk_ld; exact rfl; (repeat (first | with_reducible exact Pk.h | with_reducible apply Pk.t)); exact rfl)))) | ((with_reducible apply t_nx F16.k); exact rfl; exact rfl) | with_reducible apply m_seq | (with_reducible apply m_reg mix) | with_reducible apply m_block | ((with_reducible apply m_ct); exact rfl) | ((with_reducible apply m_cf); exact rfl) | ((with_reducible apply m_skn); exact rfl) | ((with_reducible apply m_exn); exact rfl)))
  refine m_cond rfl (fun q => ?_) (fun q => ?_)
  · have q2 : (Sm.mk p l).ok = false := by simpa using q
    rw [q2]
    (repeat (first | ((with_reducible apply t_run); exact rfl) | ((with_reducible apply t_p); exact rfl; exact rfl) | ((with_reducible apply t_gr); exact rfl) | ((with_reducible apply t_ge); exact rfl) | ((with_reducible apply t_ld); exact rfl; exact rfl; (repeat (first | with_reducible exact Pk.h | with_reducible apply Pk.t)); exact rfl) | ((with_reducible apply t_st); exact rfl; exact rfl; exact rfl; (repeat (first | with_reducible exact Pk.h | with_reducible apply Pk.t)); exact rfl; exact rfl; exact Nat.le_of_ble_eq_true rfl; exact rfl; (repeat (first | apply rk_nil | (apply rk_skip; exact rfl) | (apply rk_ld; exact rfl; (repeat (first | with_reducible exact Pk.h | with_reducible apply Pk.t)); exact rfl)))) | ((with_reducible apply t_nx F16.k); exact rfl; exact rfl) | with_reducible apply m_seq | (with_reducible apply m_reg mix) | with_reducible apply m_block | ((with_reducible apply m_ct); exact rfl) | ((with_reducible apply m_cf); exact rfl) | ((with_reducible apply m_skn); exact rfl) | ((with_reducible apply m_exn); exact rfl)))
    subst hX
    refine en_put (x := Hold.mk ⟨tc, tn⟩ xb ⟨⟨sp, sl⟩, ⟨mp, ml⟩, pr⟩ ws v) (l1 := l1) (l2 := l2) (by repeat (first | apply Sx.nil | apply Pk.h | apply Sx.cons | apply Pk.t)) ?_
    refine en_mktab (t := t) (hb := hb) (m := m) (hs := l1 ++ _ :: l2) (keys := keys) (by repeat (first | apply Sx.nil | apply Pk.h | apply Sx.cons | apply Pk.t)) ?_
    apply m_ret
    · rfl
    · (repeat (first | apply rs_nil | (apply rs_tmp; exact rfl) | (apply rs_cell; exact rfl; (repeat (first | with_reducible exact Pk.h | with_reducible apply Pk.t)); exact rfl)))
    · exact ⟨rfl, rfl⟩
    · exact (by repeat (first | apply Sx.nil | apply Pk.h | apply Sx.cons | apply Pk.t))
  · have q2 : (Sm.mk p l).ok = true := by simpa using q
    rw [q2]
    (repeat (first | ((with_reducible apply t_run); exact rfl) | ((with_reducible apply t_p); exact rfl; exact rfl) | ((with_reducible apply t_gr); exact rfl) | ((with_reducible apply t_ge); exact rfl) | ((with_reducible apply t_ld); exact rfl; exact rfl; (repeat (first | with_reducible exact Pk.h | with_reducible apply Pk.t)); exact rfl) | ((with_reducible apply t_st); exact rfl; exact rfl; exact rfl; (repeat (first | with_reducible exact Pk.h | with_reducible apply Pk.t)); exact rfl; exact rfl; exact Nat.le_of_ble_eq_true rfl; exact rfl; (repeat (first | apply rk_nil | (apply rk_skip; exact rfl) | (apply rk_ld; exact rfl; (repeat (first | with_reducible exact Pk.h | with_reducible apply Pk.t)); exact rfl)))) | ((with_reducible apply t_nx F16.k); exact rfl; exact rfl) | with_reducible apply m_seq | (with_reducible apply m_reg mix) | with_reducible apply m_block | ((with_reducible apply m_ct); exact rfl) | ((with_reducible apply m_cf); exact rfl) | ((with_reducible apply m_skn); exact rfl) | ((with_reducible apply m_exn); exact rfl)))
    refine t_r (v := .pointer (some ⟨xb, 0, none⟩)) rfl (look_rv ktx und59 (zrun und71) rfl rfl hko (by repeat (first | with_reducible exact Pk.h | with_reducible apply Pk.t)) (.inr hmem)) ?_
    (repeat (first | ((with_reducible apply t_run); exact rfl) | ((with_reducible apply t_p); exact rfl; exact rfl) | ((with_reducible apply t_gr); exact rfl) | ((with_reducible apply t_ge); exact rfl) | ((with_reducible apply t_ld); exact rfl; exact rfl; (repeat (first | with_reducible exact Pk.h | with_reducible apply Pk.t)); exact rfl) | ((with_reducible apply t_st); exact rfl; exact rfl; exact rfl; (repeat (first | with_reducible exact Pk.h | with_reducible apply Pk.t)); exact rfl; exact rfl; exact Nat.le_of_ble_eq_true rfl; exact rfl; (repeat (first | apply rk_nil | (apply rk_skip; exact rfl) | (apply rk_ld; exact rfl; (repeat (first | with_reducible exact Pk.h | with_reducible apply Pk.t)); exact rfl)))) | ((with_reducible apply t_nx F16.k); exact rfl; exact rfl) | with_reducible apply m_seq | (with_reducible apply m_reg mix) | with_reducible apply m_block | ((with_reducible apply m_ct); exact rfl) | ((with_reducible apply m_cf); exact rfl) | ((with_reducible apply m_skn); exact rfl) | ((with_reducible apply m_exn); exact rfl)))
    refine t_bsl sl104 rfl rfl rfl rfl rfl rfl rfl rfl fun bs => ⟨(by (repeat (first | apply rk_nil | (apply rk_skip; exact rfl) | (apply rk_ld; exact rfl; (repeat (first | with_reducible exact Pk.h | with_reducible apply Pk.t)); exact rfl)))), ?_⟩
    try dsimp only [List.cons_append, List.nil_append]
    refine t_cl rfl rfl (Max_spec (Cl bs 28 [.int .u64 mp, .int .u32 ml, .int .u64 p, .int .u32 l]) (.slice (some ⟨bs, 0, none⟩) 2 2) [⟨mp, ml⟩, ⟨p, l⟩] (rds_cl (b := bs) (T := 28) (k := 2) (c := 2) (xs := [Sm.cells (Sm.mk mp ml), Sm.cells (Sm.mk p l)]) (by simp [Sm.cells])) (by simp)) (by repeat (first | apply Sx.nil | apply Pk.h | apply Sx.cons | apply Pk.t)) ?_
    rintro _ _ ⟨rfl, rfl⟩
    refine ⟨?_, ?_⟩ <;> (try dsimp only [List.cons_append, List.nil_append])
    · (repeat (first | apply rk_nil | (apply rk_skip; exact rfl) | (apply rk_ld; exact rfl; (repeat (first | with_reducible exact Pk.h | with_reducible apply Pk.t)); exact rfl)))
    (repeat (first | ((with_reducible apply t_run); exact rfl) | ((with_reducible apply t_p); exact rfl; exact rfl) | ((with_reducible apply t_gr); exact rfl) | ((with_reducible apply t_ge); exact rfl) | ((with_reducible apply t_ld); exact rfl; exact rfl; (repeat (first | with_reducible exact Pk.h | with_reducible apply Pk.t)); exact rfl) | ((with_reducible apply t_st); exact rfl; exact rfl; exact rfl; (repeat (first | with_reducible exact Pk.h | with_reducible apply Pk.t)); exact rfl; exact rfl; exact Nat.le_of_ble_eq_true rfl; exact rfl; (repeat (first | apply rk_nil | (apply rk_skip; exact rfl) | (apply rk_ld; exact rfl; (repeat (first | with_reducible exact Pk.h | with_reducible apply Pk.t)); exact rfl)))) | ((with_reducible apply t_nx F16.k); exact rfl; exact rfl) | with_reducible apply m_seq | (with_reducible apply m_reg mix) | with_reducible apply m_block | ((with_reducible apply m_ct); exact rfl) | ((with_reducible apply m_cf); exact rfl) | ((with_reducible apply m_skn); exact rfl) | ((with_reducible apply m_exn); exact rfl)))
    rw [← hent]
    subst hX
    refine en_put (x := Hold.raise (Hold.mk ⟨tc, tn⟩ xb ⟨⟨sp, sl⟩, ⟨mp, ml⟩, pr⟩ ws v) ⟨p, l⟩) (l1 := l1) (l2 := l2) (by repeat (first | apply Sx.nil | apply Pk.h | apply Sx.cons | apply Pk.t)) ?_
    refine en_mktab (t := t) (hb := hb) (m := m) (hs := l1 ++ _ :: l2) (keys := keys) (by repeat (first | apply Sx.nil | apply Pk.h | apply Sx.cons | apply Pk.t)) ?_
    apply m_ret
    · rfl
    · (repeat (first | apply rs_nil | (apply rs_tmp; exact rfl) | (apply rs_cell; exact rfl; (repeat (first | with_reducible exact Pk.h | with_reducible apply Pk.t)); exact rfl)))
    · exact ⟨rfl, rfl⟩
    · exact (by repeat (first | apply Sx.nil | apply Pk.h | apply Sx.cons | apply Pk.t))

open Classical in
theorem del_no {hs : List Hold} {tx : Tx} (hn : ∀ x ∈ hs, x.tx ≠ tx) : (entL hs).filter (fun y => decide (y.1 ≠ tx.V)) = entL hs := by
  rw [List.filter_eq_self]
  intro y hy
  simpa using ent_no hn y hy
open Classical in
theorem del_one {l1 l2 : List Hold} {x : Hold} (hn : ∀ y ∈ l1 ++ l2, y.tx ≠ x.tx) : (entL (l1 ++ x :: l2)).filter (fun y => decide (y.1 ≠ x.tx.V)) = entL (l1 ++ l2) := by
  have h1 : (entL l1).filter (fun y => decide (y.1 ≠ x.tx.V)) = entL l1 := del_no fun y hy => hn y (by simp [hy])
  have h2 : (entL l2).filter (fun y => decide (y.1 ≠ x.tx.V)) = entL l2 := del_no fun y hy => hn y (by simp [hy])
  have e1 : entL (l1 ++ x :: l2) = entL l1 ++ (x.tx.V, .pointer (some ⟨x.b, 0, none⟩)) :: entL l2 := by simp [entL]
  rw [e1, List.filter_append, h1, List.filter_cons, h2]
  simp [entL]
end Go.Proofs.Ythcbefkgfhokoaa

/- Cut. -/
namespace Go.Proofs.Ythcbefkgfhokoaa
open Go Go.Dv
set_option maxRecDepth 100000
attribute [local irreducible] HTh HM En Fsp TrA Cl MpA OwS RdS MpO TabA HsA

theorem LCut_none (t : Nat) (hs : List Hold) (keys : KL) (tx : Tx) (hok : tx.ok) (hn : ∀ x ∈ hs, x.tx ≠ tx) :
    Fsp Try.prog 14 [.pointer (some ⟨t, 0, none⟩), tx.V] [TabA t hs keys] fun u aa' => u = .slice none 0 0 ∧ aa' = [TabA t hs keys, OwS 41 10 u 0 []] := by
  have hko := keyOk25 hok
  have hby := By_none t hs keys tx hok hn
  have hde := del_no hn
  refine spec_of F14.ok rfl fun gl X => ?_
  dsimp only [List.cons_append, List.nil_append]
  have htx : tx.V = .agg #[.int .u32 tx.c, .int .u32 tx.n] := rfl
  rw [htx] at hko hde hby ⊢
  generalize tx.c = c at hko hde hby ⊢
  generalize tx.n = n at hko hde hby ⊢
  (repeat (first | ((with_reducible apply t_run); exact rfl) | ((with_reducible apply t_p); exact rfl; exact rfl) | ((with_reducible apply t_gr); exact rfl) | ((with_reducible apply t_ge); exact rfl) | ((with_reducible apply t_ld); exact rfl; exact rfl; (repeat (first | with_reducible exact Pk.h | with_reducible apply Pk.t)); exact rfl) | ((with_reducible apply t_st); exact rfl; exact rfl; exact rfl; (repeat (first | with_reducible exact Pk.h | with_reducible apply Pk.t)); exact rfl; exact rfl; exact Nat.le_of_ble_eq_true rfl; exact rfl; (repeat (first | apply rk_nil | (apply rk_skip; exact rfl) | (apply rk_ld; exact rfl; (repeat (first | with_reducible exact Pk.h | with_reducible apply Pk.t)); exact rfl)))) | ((with_reducible apply t_nx F14.k); exact rfl; exact rfl) | with_reducible apply m_seq | (with_reducible apply m_reg mix) | with_reducible apply m_block | ((with_reducible apply m_ct); exact rfl) | ((with_reducible apply m_cf); exact rfl) | ((with_reducible apply m_skn); exact rfl) | ((with_reducible apply m_exn); exact rfl)))
  refine t_bx rfl rfl rfl fun b3 => ⟨(by (repeat (first | apply rk_nil | (apply rk_skip; exact rfl) | (apply rk_ld; exact rfl; (repeat (first | with_reducible exact Pk.h | with_reducible apply Pk.t)); exact rfl)))), ?_⟩
  try dsimp only [List.cons_append, List.nil_append]
  (repeat (first | ((with_reducible apply t_run); exact rfl) | ((with_reducible apply t_p); exact rfl; exact rfl) | ((with_reducible apply t_gr); exact rfl) | ((with_reducible apply t_ge); exact rfl) | ((with_reducible apply t_ld); exact rfl; exact rfl; (repeat (first | with_reducible exact Pk.h | with_reducible apply Pk.t)); exact rfl) | ((with_reducible apply t_st); exact rfl; exact rfl; exact rfl; (repeat (first | with_reducible exact Pk.h | with_reducible apply Pk.t)); exact rfl; exact rfl; exact Nat.le_of_ble_eq_true rfl; exact rfl; (repeat (first | apply rk_nil | (apply rk_skip; exact rfl) | (apply rk_ld; exact rfl; (repeat (first | with_reducible exact Pk.h | with_reducible apply Pk.t)); exact rfl)))) | ((with_reducible apply t_nx F14.k); exact rfl; exact rfl) | with_reducible apply m_seq | (with_reducible apply m_reg mix) | with_reducible apply m_block | ((with_reducible apply m_ct); exact rfl) | ((with_reducible apply m_cf); exact rfl) | ((with_reducible apply m_skn); exact rfl) | ((with_reducible apply m_exn); exact rfl)))
  refine t_cl rfl rfl (hby) (by repeat (first | apply Sx.nil | apply Pk.h | apply Sx.cons | apply Pk.t)) ?_
  rintro _ _ ⟨rfl, rfl⟩
  refine ⟨?_, ?_⟩ <;> (try dsimp only [List.cons_append, List.nil_append])
  · (repeat (first | apply rk_nil | (apply rk_skip; exact rfl) | (apply rk_ld; exact rfl; (repeat (first | with_reducible exact Pk.h | with_reducible apply Pk.t)); exact rfl)))
  (repeat (first | ((with_reducible apply t_run); exact rfl) | ((with_reducible apply t_p); exact rfl; exact rfl) | ((with_reducible apply t_gr); exact rfl) | ((with_reducible apply t_ge); exact rfl) | ((with_reducible apply t_ld); exact rfl; exact rfl; (repeat (first | with_reducible exact Pk.h | with_reducible apply Pk.t)); exact rfl) | ((with_reducible apply t_st); exact rfl; exact rfl; exact rfl; (repeat (first | with_reducible exact Pk.h | with_reducible apply Pk.t)); exact rfl; exact rfl; exact Nat.le_of_ble_eq_true rfl; exact rfl; (repeat (first | apply rk_nil | (apply rk_skip; exact rfl) | (apply rk_ld; exact rfl; (repeat (first | with_reducible exact Pk.h | with_reducible apply Pk.t)); exact rfl)))) | ((with_reducible apply t_nx F14.k); exact rfl; exact rfl) | with_reducible apply m_seq | (with_reducible apply m_reg mix) | with_reducible apply m_block | ((with_reducible apply m_ct); exact rfl) | ((with_reducible apply m_cf); exact rfl) | ((with_reducible apply m_skn); exact rfl) | ((with_reducible apply m_exn); exact rfl)))
  refine m_lp (α := Unit) (fun _ => [(13, .int .i64 0), (0, .pointer (some ⟨t, 0, none⟩)), (3, .pointer (some ⟨b3, 0, none⟩)), (5, .slice none 0 0), (12, .int .i64 0)])
    (fun _ => [TabA t hs keys, OwS 41 10 (.slice none 0 0) 0 [], Cl b3 25 [.int .u32 c, .int .u32 n], X]) (fun _ => True) (fun _ => 0) ?_ () trivial [13, 0, 3, 5, 12] rfl (by repeat (first | apply Sx.nil | apply Pk.h | apply Sx.cons | apply Pk.t))
  rintro _ _
  refine en_tab (by repeat (first | with_reducible exact Pk.h | with_reducible apply Pk.t)) fun hb m => ?_
  (repeat (first | ((with_reducible apply t_run); exact rfl) | ((with_reducible apply t_p); exact rfl; exact rfl) | ((with_reducible apply t_gr); exact rfl) | ((with_reducible apply t_ge); exact rfl) | ((with_reducible apply t_ld); exact rfl; exact rfl; (repeat (first | with_reducible exact Pk.h | with_reducible apply Pk.t)); exact rfl) | ((with_reducible apply t_st); exact rfl; exact rfl; exact rfl; (repeat (first | with_reducible exact Pk.h | with_reducible apply Pk.t)); exact rfl; exact rfl; exact Nat.le_of_ble_eq_true rfl; exact rfl; (repeat (first | apply rk_nil | (apply rk_skip; exact rfl) | (apply rk_ld; exact rfl; (repeat (first | with_reducible exact Pk.h | with_reducible apply Pk.t)); exact rfl)))) | ((with_reducible apply t_nx F14.k); exact rfl; exact rfl) | with_reducible apply m_seq | (with_reducible apply m_reg mix) | with_reducible apply m_block | ((with_reducible apply m_ct); exact rfl) | ((with_reducible apply m_cf); exact rfl) | ((with_reducible apply m_skn); exact rfl) | ((with_reducible apply m_exn); exact rfl)))
  refine t_del (kv := .agg #[.int .u32 c, .int .u32 n]) ktx und59 rfl rfl rfl hko (by repeat (first | with_reducible exact Pk.h | with_reducible apply Pk.t)) ⟨(by (repeat (first | apply rk_nil | (apply rk_skip; exact rfl) | (apply rk_ld; exact rfl; (repeat (first | with_reducible exact Pk.h | with_reducible apply Pk.t)); exact rfl)))), ?_⟩
  rw [hde]
  (repeat (first | ((with_reducible apply t_run); exact rfl) | ((with_reducible apply t_p); exact rfl; exact rfl) | ((with_reducible apply t_gr); exact rfl) | ((with_reducible apply t_ge); exact rfl) | ((with_reducible apply t_ld); exact rfl; exact rfl; (repeat (first | with_reducible exact Pk.h | with_reducible apply Pk.t)); exact rfl) | ((with_reducible apply t_st); exact rfl; exact rfl; exact rfl; (repeat (first | with_reducible exact Pk.h | with_reducible apply Pk.t)); exact rfl; exact rfl; exact Nat.le_of_ble_eq_true rfl; exact rfl; (repeat (first | apply rk_nil | (apply rk_skip; exact rfl) | (apply rk_ld; exact rfl; (repeat (first | with_reducible exact Pk.h | with_reducible apply Pk.t)); exact rfl)))) | ((with_reducible apply t_nx F14.k); exact rfl; exact rfl) | with_reducible apply m_seq | (with_reducible apply m_reg mix) | with_reducible apply m_block | ((with_reducible apply m_ct); exact rfl) | ((with_reducible apply m_cf); exact rfl) | ((with_reducible apply m_skn); exact rfl) | ((with_reducible apply m_exn); exact rfl)))
  refine en_mktab (t := t) (hb := hb) (m := m) (hs := hs) (keys := keys) (by repeat (first | apply Sx.nil | apply Pk.h | apply Sx.cons | apply Pk.t)) ?_
  apply m_ret
  · rfl
  · (repeat (first | apply rs_nil | (apply rs_tmp; exact rfl) | (apply rs_cell; exact rfl; (repeat (first | with_reducible exact Pk.h | with_reducible apply Pk.t)); exact rfl)))
  · exact ⟨rfl, rfl⟩
  · exact (by repeat (first | apply Sx.nil | apply Pk.h | apply Sx.cons | apply Pk.t))

def cutKs (keys : KL) (l : List In) : KL := l.foldl (fun k x => cutK k x.w.key) keys
theorem LCut_some (t : Nat) (l1 l2 : List Hold) (keys : KL) (x : Hold) (hok : x.tx.ok) (hd : ∀ y ∈ l1 ++ l2, y.tx ≠ x.tx) (h0 : 0 < x.ws.length) (hl : x.ws.length ≤ 1073741824) :
    Fsp Try.prog 14 [.pointer (some ⟨t, 0, none⟩), x.tx.V] [TabA t (l1 ++ x :: l2) keys] fun u aa' => aa' = [TabA t (l1 ++ l2) (cutKs keys (inL x)), OwS 41 10 u (inL x).length (ics (inL x)).flatten] := by
  have hko := keyOk25 hok
  have hby := By_some t (l1 ++ x :: l2) keys x (by simp) hok h0 hl
  have hde := del_one hd
  have hil : (inL x).length = x.ws.length := by simp [inL]
  rw [← hil] at h0 hl
  generalize inL x = L at hby hil h0 hl ⊢
  refine spec_of F14.ok rfl fun gl X => ?_
  dsimp only [List.cons_append, List.nil_append]
  have htx : x.tx.V = .agg #[.int .u32 x.tx.c, .int .u32 x.tx.n] := rfl
  rw [htx] at hko hde hby ⊢
  generalize x.tx.c = c at hko hde hby ⊢
  generalize x.tx.n = n at hko hde hby ⊢
  (repeat (first | ((with_reducible apply t_run); exact rfl) | ((with_reducible apply t_p); exact rfl; exact rfl) | ((with_reducible apply t_gr); exact rfl) | ((with_reducible apply t_ge); exact rfl) | ((with_reducible apply t_ld); exact rfl; exact rfl; (repeat (first | with_reducible exact Pk.h | with_reducible apply Pk.t)); exact rfl) | ((with_reducible apply t_st); exact rfl; exact rfl; exact rfl; (repeat (first | with_reducible exact Pk.h | with_reducible apply Pk.t)); exact rfl; exact rfl; exact Nat.le_of_ble_eq_true rfl; exact rfl; (repeat (first | apply rk_nil | (apply rk_skip; exact rfl) | (apply rk_ld; exact rfl; (repeat (first | with_reducible exact Pk.h | with_reducible apply Pk.t)); exact rfl)))) | ((with_reducible apply t_nx F14.k); exact rfl; exact rfl) | with_reducible apply m_seq | (with_reducible apply m_reg mix) | with_reducible apply m_block | ((with_reducible apply m_ct); exact rfl) | ((with_reducible apply m_cf); exact rfl) | ((with_reducible apply m_skn); exact rfl) | ((with_reducible apply m_exn); exact rfl)))
  refine t_bx rfl rfl rfl fun b3 => ⟨(by (repeat (first | apply rk_nil | (apply rk_skip; exact rfl) | (apply rk_ld; exact rfl; (repeat (first | with_reducible exact Pk.h | with_reducible apply Pk.t)); exact rfl)))), ?_⟩
  try dsimp only [List.cons_append, List.nil_append]
  (repeat (first | ((with_reducible apply t_run); exact rfl) | ((with_reducible apply t_p); exact rfl; exact rfl) | ((with_reducible apply t_gr); exact rfl) | ((with_reducible apply t_ge); exact rfl) | ((with_reducible apply t_ld); exact rfl; exact rfl; (repeat (first | with_reducible exact Pk.h | with_reducible apply Pk.t)); exact rfl) | ((with_reducible apply t_st); exact rfl; exact rfl; exact rfl; (repeat (first | with_reducible exact Pk.h | with_reducible apply Pk.t)); exact rfl; exact rfl; exact Nat.le_of_ble_eq_true rfl; exact rfl; (repeat (first | apply rk_nil | (apply rk_skip; exact rfl) | (apply rk_ld; exact rfl; (repeat (first | with_reducible exact Pk.h | with_reducible apply Pk.t)); exact rfl)))) | ((with_reducible apply t_nx F14.k); exact rfl; exact rfl) | with_reducible apply m_seq | (with_reducible apply m_reg mix) | with_reducible apply m_block | ((with_reducible apply m_ct); exact rfl) | ((with_reducible apply m_cf); exact rfl) | ((with_reducible apply m_skn); exact rfl) | ((with_reducible apply m_exn); exact rfl)))
  refine t_cl rfl rfl hby (by repeat (first | apply Sx.nil | apply Pk.h | apply Sx.cons | apply Pk.t)) ?_
  rintro u _ rfl
  refine ⟨?_, ?_⟩ <;> (try dsimp only [List.cons_append, List.nil_append])
  · (repeat (first | apply rk_nil | (apply rk_skip; exact rfl) | (apply rk_ld; exact rfl; (repeat (first | with_reducible exact Pk.h | with_reducible apply Pk.t)); exact rfl)))
  refine en_rds (kz := 10) (m := L.length) (xs := ics L) (by simp [ics, In.cells]) (by simpa [ics] using h0) (by simp [ics]) (by repeat (first | with_reducible exact Pk.h | with_reducible apply Pk.t)) fun hv => ?_
  obtain ⟨a, cc, hve⟩ := hv.len
  have hlen : (ics L).length = L.length := by simp [ics]
  rw [hlen] at hve
  subst hve
  (repeat (first | ((with_reducible apply t_run); exact rfl) | ((with_reducible apply t_p); exact rfl; exact rfl) | ((with_reducible apply t_gr); exact rfl) | ((with_reducible apply t_ge); exact rfl) | ((with_reducible apply t_ld); exact rfl; exact rfl; (repeat (first | with_reducible exact Pk.h | with_reducible apply Pk.t)); exact rfl) | ((with_reducible apply t_st); exact rfl; exact rfl; exact rfl; (repeat (first | with_reducible exact Pk.h | with_reducible apply Pk.t)); exact rfl; exact rfl; exact Nat.le_of_ble_eq_true rfl; exact rfl; (repeat (first | apply rk_nil | (apply rk_skip; exact rfl) | (apply rk_ld; exact rfl; (repeat (first | with_reducible exact Pk.h | with_reducible apply Pk.t)); exact rfl)))) | ((with_reducible apply t_nx F14.k); exact rfl; exact rfl) | with_reducible apply m_seq | (with_reducible apply m_reg mix) | with_reducible apply m_block | ((with_reducible apply m_ct); exact rfl) | ((with_reducible apply m_cf); exact rfl) | ((with_reducible apply m_skn); exact rfl) | ((with_reducible apply m_exn); exact rfl)))
  refine m_lp (α := Nat) (fun i => [(13, .int .i64 (i : Nat)), (0, .pointer (some ⟨t, 0, none⟩)), (3, .pointer (some ⟨b3, 0, none⟩)), (5, .slice a L.length cc), (11, .slice a L.length cc), (12, .int .i64 (L.length : Nat))])
    (fun i => [TabA t (l1 ++ x :: l2) (cutKs keys (L.take i)), OwS 41 10 (.slice a L.length cc) L.length (ics L).flatten, Cl b3 25 [.int .u32 c, .int .u32 n], X]) (fun i => i ≤ L.length) (fun i => L.length - i) ?_ 0 (by simp) [13, 0, 3, 5, 11, 12] rfl (by repeat (first | apply Sx.nil | apply Pk.h | apply Sx.cons | apply Pk.t))
  rintro i hi
  refine en_tab (by repeat (first | with_reducible exact Pk.h | with_reducible apply Pk.t)) fun hb m => ?_
  (repeat (first | ((with_reducible apply t_run); exact rfl) | ((with_reducible apply t_p); exact rfl; exact rfl) | ((with_reducible apply t_gr); exact rfl) | ((with_reducible apply t_ge); exact rfl) | ((with_reducible apply t_ld); exact rfl; exact rfl; (repeat (first | with_reducible exact Pk.h | with_reducible apply Pk.t)); exact rfl) | ((with_reducible apply t_st); exact rfl; exact rfl; exact rfl; (repeat (first | with_reducible exact Pk.h | with_reducible apply Pk.t)); exact rfl; exact rfl; exact Nat.le_of_ble_eq_true rfl; exact rfl; (repeat (first | apply rk_nil | (apply rk_skip; exact rfl) | (apply rk_ld; exact rfl; (repeat (first | with_reducible exact Pk.h | with_reducible apply Pk.t)); exact rfl)))) | ((with_reducible apply t_nx F14.k); exact rfl; exact rfl) | with_reducible apply m_seq | (with_reducible apply m_reg mix) | with_reducible apply m_block | ((with_reducible apply m_ct); exact rfl) | ((with_reducible apply m_cf); exact rfl) | ((with_reducible apply m_skn); exact rfl) | ((with_reducible apply m_exn); exact rfl)))
  refine m_cond rfl (fun q => ?_) (fun q => ?_)
  · have hi' : i < L.length := by have := of_decide_eq_true q; omega
    obtain ⟨b, o, rfl, _⟩ := hv.ptr (by rw [hlen]; omega)
    (repeat (first | ((with_reducible apply t_run); exact rfl) | ((with_reducible apply t_p); exact rfl; exact rfl) | ((with_reducible apply t_gr); exact rfl) | ((with_reducible apply t_ge); exact rfl) | ((with_reducible apply t_ld); exact rfl; exact rfl; (repeat (first | with_reducible exact Pk.h | with_reducible apply Pk.t)); exact rfl) | ((with_reducible apply t_st); exact rfl; exact rfl; exact rfl; (repeat (first | with_reducible exact Pk.h | with_reducible apply Pk.t)); exact rfl; exact rfl; exact Nat.le_of_ble_eq_true rfl; exact rfl; (repeat (first | apply rk_nil | (apply rk_skip; exact rfl) | (apply rk_ld; exact rfl; (repeat (first | with_reducible exact Pk.h | with_reducible apply Pk.t)); exact rfl)))) | ((with_reducible apply t_nx F14.k); exact rfl; exact rfl) | with_reducible apply m_seq | (with_reducible apply m_reg mix) | with_reducible apply m_block | ((with_reducible apply m_ct); exact rfl) | ((with_reducible apply m_cf); exact rfl) | ((with_reducible apply m_skn); exact rfl) | ((with_reducible apply m_exn); exact rfl)))
    refine t_ia i rfl rfl rfl hi' ?_
    refine t_la rfl rfl (R := OwS 41 10 (.slice (some ⟨b, o, none⟩) L.length cc) L.length (ics L).flatten) (by repeat (first | with_reducible exact Pk.h | with_reducible apply Pk.t)) (hv.at (by decide) (i := i) (x := L[i].cells) (by simp [ics, hi'])) ?_
    refine t_al rfl fun b7 => ⟨(by (repeat (first | apply rk_nil | (apply rk_skip; exact rfl) | (apply rk_ld; exact rfl; (repeat (first | with_reducible exact Pk.h | with_reducible apply Pk.t)); exact rfl)))), ?_⟩
    have hcut : cutKs keys (L.take (i + 1)) = cutK (cutKs keys (L.take i)) L[i].w.key := by
      rw [List.take_succ_eq_append_getElem hi', cutKs, List.foldl_append]; rfl
    simp only [In.cells]
    (repeat (first | ((with_reducible apply t_run); exact rfl) | ((with_reducible apply t_p); exact rfl; exact rfl) | ((with_reducible apply t_gr); exact rfl) | ((with_reducible apply t_ge); exact rfl) | ((with_reducible apply t_ld); exact rfl; exact rfl; (repeat (first | with_reducible exact Pk.h | with_reducible apply Pk.t)); exact rfl) | ((with_reducible apply t_st); exact rfl; exact rfl; exact rfl; (repeat (first | with_reducible exact Pk.h | with_reducible apply Pk.t)); exact rfl; exact rfl; exact Nat.le_of_ble_eq_true rfl; exact rfl; (repeat (first | apply rk_nil | (apply rk_skip; exact rfl) | (apply rk_ld; exact rfl; (repeat (first | with_reducible exact Pk.h | with_reducible apply Pk.t)); exact rfl)))) | ((with_reducible apply t_nx F14.k); exact rfl; exact rfl) | with_reducible apply m_seq | (with_reducible apply m_reg mix) | with_reducible apply m_block | ((with_reducible apply m_ct); exact rfl) | ((with_reducible apply m_cf); exact rfl) | ((with_reducible apply m_skn); exact rfl) | ((with_reducible apply m_exn); exact rfl)))
    refine t_cl rfl rfl (Cut_spec m L[i].w.key (cutKs keys (L.take i))) (by repeat (first | apply Sx.nil | apply Pk.h | apply Sx.cons | apply Pk.t)) ?_
    rintro _ _ ⟨⟨_, rfl⟩, rfl⟩
    refine ⟨?_, ?_⟩ <;> (try dsimp only [List.cons_append, List.nil_append])
    · (repeat (first | apply rk_nil | (apply rk_skip; exact rfl) | (apply rk_ld; exact rfl; (repeat (first | with_reducible exact Pk.h | with_reducible apply Pk.t)); exact rfl)))
    rw [← hcut]
    (repeat (first | ((with_reducible apply t_run); exact rfl) | ((with_reducible apply t_p); exact rfl; exact rfl) | ((with_reducible apply t_gr); exact rfl) | ((with_reducible apply t_ge); exact rfl) | ((with_reducible apply t_ld); exact rfl; exact rfl; (repeat (first | with_reducible exact Pk.h | with_reducible apply Pk.t)); exact rfl) | ((with_reducible apply t_st); exact rfl; exact rfl; exact rfl; (repeat (first | with_reducible exact Pk.h | with_reducible apply Pk.t)); exact rfl; exact rfl; exact Nat.le_of_ble_eq_true rfl; exact rfl; (repeat (first | apply rk_nil | (apply rk_skip; exact rfl) | (apply rk_ld; exact rfl; (repeat (first | with_reducible exact Pk.h | with_reducible apply Pk.t)); exact rfl)))) | ((with_reducible apply t_nx F14.k); exact rfl; exact rfl) | with_reducible apply m_seq | (with_reducible apply m_reg mix) | with_reducible apply m_block | ((with_reducible apply m_ct); exact rfl) | ((with_reducible apply m_cf); exact rfl) | ((with_reducible apply m_skn); exact rfl) | ((with_reducible apply m_exn); exact rfl)))
    refine en_mktab (t := t) (hb := hb) (m := m) (hs := l1 ++ x :: l2) (keys := cutKs keys (L.take (i + 1))) (by repeat (first | apply Sx.nil | apply Pk.h | apply Sx.cons | apply Pk.t)) ?_
    refine t_meet rfl (i + 1) ⟨hi', by omega⟩ [13, 0, 3, 5, 11, 12] ?_ (by repeat (first | apply Sx.nil | apply Pk.h | apply Sx.cons | apply Pk.t))
    rw [wrap_nat (by omega)]
    rfl
  · have hi' : i = L.length := by have := of_decide_eq_false q; omega
    subst hi'
    rw [List.take_length]
    refine en_open (α := Unit) (φ := fun _ => True) (x := HsA (l1 ++ x :: l2)) (ys := fun _ => [HoldA x, HsA (l1 ++ l2)]) (fun h hh => ⟨(), trivial, hsA_pick hh⟩) (by repeat (first | with_reducible exact Pk.h | with_reducible apply Pk.t)) fun _ _ => ?_
    dsimp only [List.cons_append, List.nil_append]
    (repeat (first | ((with_reducible apply t_run); exact rfl) | ((with_reducible apply t_p); exact rfl; exact rfl) | ((with_reducible apply t_gr); exact rfl) | ((with_reducible apply t_ge); exact rfl) | ((with_reducible apply t_ld); exact rfl; exact rfl; (repeat (first | with_reducible exact Pk.h | with_reducible apply Pk.t)); exact rfl) | ((with_reducible apply t_st); exact rfl; exact rfl; exact rfl; (repeat (first | with_reducible exact Pk.h | with_reducible apply Pk.t)); exact rfl; exact rfl; exact Nat.le_of_ble_eq_true rfl; exact rfl; (repeat (first | apply rk_nil | (apply rk_skip; exact rfl) | (apply rk_ld; exact rfl; (repeat (first | with_reducible exact Pk.h | with_reducible apply Pk.t)); exact rfl)))) | ((with_reducible apply t_nx F14.k); exact rfl; exact rfl) | with_reducible apply m_seq | (with_reducible apply m_reg mix) | with_reducible apply m_block | ((with_reducible apply m_ct); exact rfl) | ((with_reducible apply m_cf); exact rfl) | ((with_reducible apply m_skn); exact rfl) | ((with_reducible apply m_exn); exact rfl)))
    refine t_del (kv := .agg #[.int .u32 c, .int .u32 n]) ktx und59 rfl rfl rfl hko (by repeat (first | with_reducible exact Pk.h | with_reducible apply Pk.t)) ⟨(by (repeat (first | apply rk_nil | (apply rk_skip; exact rfl) | (apply rk_ld; exact rfl; (repeat (first | with_reducible exact Pk.h | with_reducible apply Pk.t)); exact rfl)))), ?_⟩
    rw [hde]
    (repeat (first | ((with_reducible apply t_run); exact rfl) | ((with_reducible apply t_p); exact rfl; exact rfl) | ((with_reducible apply t_gr); exact rfl) | ((with_reducible apply t_ge); exact rfl) | ((with_reducible apply t_ld); exact rfl; exact rfl; (repeat (first | with_reducible exact Pk.h | with_reducible apply Pk.t)); exact rfl) | ((with_reducible apply t_st); exact rfl; exact rfl; exact rfl; (repeat (first | with_reducible exact Pk.h | with_reducible apply Pk.t)); exact rfl; exact rfl; exact Nat.le_of_ble_eq_true rfl; exact rfl; (repeat (first | apply rk_nil | (apply rk_skip; exact rfl) | (apply rk_ld; exact rfl; (repeat (first | with_reducible exact Pk.h | with_reducible apply Pk.t)); exact rfl)))) | ((with_reducible apply t_nx F14.k); exact rfl; exact rfl) | with_reducible apply m_seq | (with_reducible apply m_reg mix) | with_reducible apply m_block | ((with_reducible apply m_ct); exact rfl) | ((with_reducible apply m_cf); exact rfl) | ((with_reducible apply m_skn); exact rfl) | ((with_reducible apply m_exn); exact rfl)))
    refine en_mktab (t := t) (hb := hb) (m := m) (hs := l1 ++ l2) (keys := cutKs keys L) (by repeat (first | apply Sx.nil | apply Pk.h | apply Sx.cons | apply Pk.t)) ?_
    apply m_ret
    · rfl
    · (repeat (first | apply rs_nil | (apply rs_tmp; exact rfl) | (apply rs_cell; exact rfl; (repeat (first | with_reducible exact Pk.h | with_reducible apply Pk.t)); exact rfl)))
    · exact rfl
    · exact (by repeat (first | apply Sx.nil | apply Pk.h | apply Sx.cons | apply Pk.t))
end Go.Proofs.Ythcbefkgfhokoaa

/- All. -/
namespace Go.Proofs.Ythcbefkgfhokoaa
open Go Go.Dv
set_option maxRecDepth 100000

theorem mpA_fact {m : Nat} {l : KL} : ∀ h, MpA m l h → Srt l ∧ l.length < 549755813888 := by
  rintro h ⟨x, ⟨_, _, h1, h2⟩, _⟩
  exact ⟨h1, h2⟩
attribute [local irreducible] HTh HM En Fsp TrA Cl MpA OwS RdS MpO TabA HsA

theorem getK_at {keys : KL} (hs : Srt keys) {i : Nat} (hi : i < keys.length) : getK keys keys[i].1 = some keys[i].2 := by
  have e : keys = keys.take i ++ (keys[i].1, keys[i].2) :: keys.drop (i + 1) := by
    rw [show (keys[i].1, keys[i].2) = keys[i] from rfl, ← List.drop_eq_getElem_cons hi, List.take_append_drop]
  have h2 : Srt (keys.take i ++ (keys[i].1, keys[i].2) :: keys.drop (i + 1)) := by rw [← e]; exact hs
  have h3 : getK (keys.take i ++ (keys[i].1, keys[i].2) :: keys.drop (i + 1)) keys[i].1 = some keys[i].2 := getK_mid fun y hy => (List.pairwise_append.1 h2).2.2 y hy _ (by simp)
  rw [← e] at h3
  exact h3
/-- whose an owner's intent is -/
def Of1 (hs : List Hold) (o : Ow) (y : In) : Prop := ∃ x ∈ hs, x.tx = o.tx ∧ x.tx.ok ∧ y = In.mk o.tx x.hd.start x.hd.min x.hd.prim o.w
def AllR (hs : List Hold) (keys : KL) (L : List In) : Prop := L.length = keys.length ∧ ∀ (i : Nat) (h : i < keys.length) (h2 : i < L.length), Of1 hs keys[i].2 L[i]
def ksl (ks : List ByteArray) : List (List Value) := ks.map fun k => [.string k]
theorem ksl_flat (ks : List ByteArray) : (ksl ks).flatten = strs ks := by
  induction ks with
  | nil => rfl
  | cons k ks ih => simp only [ksl, strs, List.map_cons, List.flatten_cons] at ih ⊢; rw [ih]; rfl
theorem slt_emp (x : ByteArray) : slt x emp = false := by
  have e : emp.toList = [] := by rw [← List.length_eq_zero_iff]; simp [emp]
  unfold slt
  rw [e]
  cases x.toList <;> rfl
theorem rng_all (keys : KL) : rngL emp emp keys = keys.map (·.1) := by
  rw [rngL, List.filter_eq_self]
  intro x _
  simp [inR, slt_emp]

theorem All_spec (t : Nat) (hs : List Hold) (keys : KL) (L : List In) (hL : AllR hs keys L) (hl : keys.length ≤ 1073741824) :
    Fsp Try.prog 11 [.pointer (some ⟨t, 0, none⟩)] [TabA t hs keys] fun u aa' => aa' = [TabA t hs keys, OwS 41 10 u L.length (ics L).flatten] := by
  obtain ⟨hLn, hLi⟩ := hL
  refine spec_of F11.ok rfl fun gl X => ?_
  dsimp only [List.cons_append, List.nil_append]
  refine en_tab (by repeat (first | with_reducible exact Pk.h | with_reducible apply Pk.t)) fun hb m => ?_
  refine en_fact (x := MpA m keys) mpA_fact (by repeat (first | with_reducible exact Pk.h | with_reducible apply Pk.t)) fun hf => ?_
  obtain ⟨hsrt, _⟩ := hf
  (repeat (first | ((with_reducible apply t_run); exact rfl) | ((with_reducible apply t_p); exact rfl; exact rfl) | ((with_reducible apply t_gr); exact rfl) | ((with_reducible apply t_ge); exact rfl) | ((with_reducible apply t_ld); exact rfl; exact rfl; (repeat (first | with_reducible exact Pk.h | with_reducible apply Pk.t)); exact rfl) | ((with_reducible apply t_st); exact rfl; exact rfl; exact rfl; (repeat (first | with_reducible exact Pk.h | with_reducible apply Pk.t)); exact rfl; exact rfl; exact Nat.le_of_ble_eq_true rfl; exact rfl; (repeat (first | apply rk_nil | (apply rk_skip; exact rfl) | (apply rk_ld; exact rfl; (repeat (first | with_reducible exact Pk.h | with_reducible apply Pk.t)); exact rfl)))) | ((with_reducible apply t_nx F11.k); exact rfl; exact rfl) | with_reducible apply m_seq | (with_reducible apply m_reg mix) | with_reducible apply m_block | ((with_reducible apply m_ct); exact rfl) | ((with_reducible apply m_cf); exact rfl) | ((with_reducible apply m_skn); exact rfl) | ((with_reducible apply m_exn); exact rfl)))
  refine t_cl rfl rfl (Keys_spec m emp emp keys) (by repeat (first | apply Sx.nil | apply Pk.h | apply Sx.cons | apply Pk.t)) ?_
  rintro _ _ ⟨sa, sc, rfl, rfl⟩
  refine ⟨?_, ?_⟩ <;> (try dsimp only [List.cons_append, List.nil_append])
  · (repeat (first | apply rk_nil | (apply rk_skip; exact rfl) | (apply rk_ld; exact rfl; (repeat (first | with_reducible exact Pk.h | with_reducible apply Pk.t)); exact rfl)))
  rw [rng_all]
  have hkl : (keys.map (·.1)).length = keys.length := by simp
  rw [hkl]
  refine en_mktab (t := t) (hb := hb) (m := m) (hs := hs) (keys := keys) (by repeat (first | apply Sx.nil | apply Pk.h | apply Sx.cons | apply Pk.t)) ?_
  (repeat (first | ((with_reducible apply t_run); exact rfl) | ((with_reducible apply t_p); exact rfl; exact rfl) | ((with_reducible apply t_gr); exact rfl) | ((with_reducible apply t_ge); exact rfl) | ((with_reducible apply t_ld); exact rfl; exact rfl; (repeat (first | with_reducible exact Pk.h | with_reducible apply Pk.t)); exact rfl) | ((with_reducible apply t_st); exact rfl; exact rfl; exact rfl; (repeat (first | with_reducible exact Pk.h | with_reducible apply Pk.t)); exact rfl; exact rfl; exact Nat.le_of_ble_eq_true rfl; exact rfl; (repeat (first | apply rk_nil | (apply rk_skip; exact rfl) | (apply rk_ld; exact rfl; (repeat (first | with_reducible exact Pk.h | with_reducible apply Pk.t)); exact rfl)))) | ((with_reducible apply t_nx F11.k); exact rfl; exact rfl) | with_reducible apply m_seq | (with_reducible apply m_reg mix) | with_reducible apply m_block | ((with_reducible apply m_ct); exact rfl) | ((with_reducible apply m_cf); exact rfl) | ((with_reducible apply m_skn); exact rfl) | ((with_reducible apply m_exn); exact rfl)))
  refine en_own (E := 41) (kz := 10) ?_
  have hflat := ksl_flat (keys.map (·.1))
  rw [← hflat]
  have hkn : (ksl (keys.map (·.1))).length = keys.length := by simp [ksl]
  refine m_lp (α := Nat × Value) (fun z => [(16, .int .i64 (z.1 : Nat)), (0, .pointer (some ⟨t, 0, none⟩)), (3, z.2), (14, .slice sa keys.length sc), (15, .int .i64 (keys.length : Nat))])
    (fun z => [OwS 41 10 z.2 z.1 (ics (L.take z.1)).flatten, TabA t hs keys, OwS 9 1 (.slice sa keys.length sc) keys.length (ksl (keys.map (·.1))).flatten, X]) (fun z => z.1 ≤ keys.length) (fun z => keys.length - z.1) ?_ (0, .slice none 0 0) (by simp) [16, 0, 3, 14, 15] rfl (by repeat (first | apply Sx.nil | apply Pk.h | apply Sx.cons | apply Pk.t))
  rintro ⟨i, v⟩ hi
  dsimp only at hi ⊢
  (repeat (first | ((with_reducible apply t_run); exact rfl) | ((with_reducible apply t_p); exact rfl; exact rfl) | ((with_reducible apply t_gr); exact rfl) | ((with_reducible apply t_ge); exact rfl) | ((with_reducible apply t_ld); exact rfl; exact rfl; (repeat (first | with_reducible exact Pk.h | with_reducible apply Pk.t)); exact rfl) | ((with_reducible apply t_st); exact rfl; exact rfl; exact rfl; (repeat (first | with_reducible exact Pk.h | with_reducible apply Pk.t)); exact rfl; exact rfl; exact Nat.le_of_ble_eq_true rfl; exact rfl; (repeat (first | apply rk_nil | (apply rk_skip; exact rfl) | (apply rk_ld; exact rfl; (repeat (first | with_reducible exact Pk.h | with_reducible apply Pk.t)); exact rfl)))) | ((with_reducible apply t_nx F11.k); exact rfl; exact rfl) | with_reducible apply m_seq | (with_reducible apply m_reg mix) | with_reducible apply m_block | ((with_reducible apply m_ct); exact rfl) | ((with_reducible apply m_cf); exact rfl) | ((with_reducible apply m_skn); exact rfl) | ((with_reducible apply m_exn); exact rfl)))
  refine m_cond rfl (fun q => ?_) (fun q => ?_)
  · have hi' : i < keys.length := by have := of_decide_eq_true q; omega
    refine en_rds (kz := 1) (m := keys.length) (xs := ksl (keys.map (·.1))) (by intro x hx; obtain ⟨k, _, rfl⟩ := List.mem_map.1 hx; rfl) (by omega) hkn.symm (by repeat (first | with_reducible exact Pk.h | with_reducible apply Pk.t)) fun hv => ?_
    obtain ⟨b, o, rfl, _⟩ := hv.ptr (by omega)
    have hget := getK_at hsrt hi'
    have hLt : (ics (L.take (i + 1))).flatten = (ics (L.take i)).flatten ++ (L[i]'(by omega)).cells := by
      rw [List.take_succ_eq_append_getElem (by omega), ics, ics, List.map_append, List.flatten_append]; simp
    obtain ⟨x, hx, hxt, hxok, hLe⟩ := hLi i hi' (by omega)
    rw [hLe] at hLt
    (repeat (first | ((with_reducible apply t_run); exact rfl) | ((with_reducible apply t_p); exact rfl; exact rfl) | ((with_reducible apply t_gr); exact rfl) | ((with_reducible apply t_ge); exact rfl) | ((with_reducible apply t_ld); exact rfl; exact rfl; (repeat (first | with_reducible exact Pk.h | with_reducible apply Pk.t)); exact rfl) | ((with_reducible apply t_st); exact rfl; exact rfl; exact rfl; (repeat (first | with_reducible exact Pk.h | with_reducible apply Pk.t)); exact rfl; exact rfl; exact Nat.le_of_ble_eq_true rfl; exact rfl; (repeat (first | apply rk_nil | (apply rk_skip; exact rfl) | (apply rk_ld; exact rfl; (repeat (first | with_reducible exact Pk.h | with_reducible apply Pk.t)); exact rfl)))) | ((with_reducible apply t_nx F11.k); exact rfl; exact rfl) | with_reducible apply m_seq | (with_reducible apply m_reg mix) | with_reducible apply m_block | ((with_reducible apply m_ct); exact rfl) | ((with_reducible apply m_cf); exact rfl) | ((with_reducible apply m_skn); exact rfl) | ((with_reducible apply m_exn); exact rfl)))
    refine t_ia i rfl rfl rfl hi' ?_
    refine t_la rfl rfl (R := OwS 9 1 (.slice (some ⟨b, o, none⟩) keys.length sc) keys.length (ksl (keys.map (·.1))).flatten) (by repeat (first | with_reducible exact Pk.h | with_reducible apply Pk.t)) (hv.at1 (i := i) (v := .string keys[i].1) (by simp [ksl, hi'])) ?_
    (repeat (first | ((with_reducible apply t_run); exact rfl) | ((with_reducible apply t_p); exact rfl; exact rfl) | ((with_reducible apply t_gr); exact rfl) | ((with_reducible apply t_ge); exact rfl) | ((with_reducible apply t_ld); exact rfl; exact rfl; (repeat (first | with_reducible exact Pk.h | with_reducible apply Pk.t)); exact rfl) | ((with_reducible apply t_st); exact rfl; exact rfl; exact rfl; (repeat (first | with_reducible exact Pk.h | with_reducible apply Pk.t)); exact rfl; exact rfl; exact Nat.le_of_ble_eq_true rfl; exact rfl; (repeat (first | apply rk_nil | (apply rk_skip; exact rfl) | (apply rk_ld; exact rfl; (repeat (first | with_reducible exact Pk.h | with_reducible apply Pk.t)); exact rfl)))) | ((with_reducible apply t_nx F11.k); exact rfl; exact rfl) | with_reducible apply m_seq | (with_reducible apply m_reg mix) | with_reducible apply m_block | ((with_reducible apply m_ct); exact rfl) | ((with_reducible apply m_cf); exact rfl) | ((with_reducible apply m_skn); exact rfl) | ((with_reducible apply m_exn); exact rfl)))
    refine t_cl rfl rfl (Of_some t hs keys keys[i].1 keys[i].2 x hget hx hxt hxok) (by repeat (first | apply Sx.nil | apply Pk.h | apply Sx.cons | apply Pk.t)) ?_
    rintro _ _ ⟨rfl, rfl⟩
    refine ⟨?_, ?_⟩ <;> (try dsimp only [List.cons_append, List.nil_append])
    · (repeat (first | apply rk_nil | (apply rk_skip; exact rfl) | (apply rk_ld; exact rfl; (repeat (first | with_reducible exact Pk.h | with_reducible apply Pk.t)); exact rfl)))
    (repeat (first | ((with_reducible apply t_run); exact rfl) | ((with_reducible apply t_p); exact rfl; exact rfl) | ((with_reducible apply t_gr); exact rfl) | ((with_reducible apply t_ge); exact rfl) | ((with_reducible apply t_ld); exact rfl; exact rfl; (repeat (first | with_reducible exact Pk.h | with_reducible apply Pk.t)); exact rfl) | ((with_reducible apply t_st); exact rfl; exact rfl; exact rfl; (repeat (first | with_reducible exact Pk.h | with_reducible apply Pk.t)); exact rfl; exact rfl; exact Nat.le_of_ble_eq_true rfl; exact rfl; (repeat (first | apply rk_nil | (apply rk_skip; exact rfl) | (apply rk_ld; exact rfl; (repeat (first | with_reducible exact Pk.h | with_reducible apply Pk.t)); exact rfl)))) | ((with_reducible apply t_nx F11.k); exact rfl; exact rfl) | with_reducible apply m_seq | (with_reducible apply m_reg mix) | with_reducible apply m_block | ((with_reducible apply m_ct); exact rfl) | ((with_reducible apply m_cf); exact rfl) | ((with_reducible apply m_skn); exact rfl) | ((with_reducible apply m_exn); exact rfl)))
    refine t_al rfl fun b6 => ⟨(by (repeat (first | apply rk_nil | (apply rk_skip; exact rfl) | (apply rk_ld; exact rfl; (repeat (first | with_reducible exact Pk.h | with_reducible apply Pk.t)); exact rfl)))), ?_⟩
    (repeat (first | ((with_reducible apply t_run); exact rfl) | ((with_reducible apply t_p); exact rfl; exact rfl) | ((with_reducible apply t_gr); exact rfl) | ((with_reducible apply t_ge); exact rfl) | ((with_reducible apply t_ld); exact rfl; exact rfl; (repeat (first | with_reducible exact Pk.h | with_reducible apply Pk.t)); exact rfl) | ((with_reducible apply t_st); exact rfl; exact rfl; exact rfl; (repeat (first | with_reducible exact Pk.h | with_reducible apply Pk.t)); exact rfl; exact rfl; exact Nat.le_of_ble_eq_true rfl; exact rfl; (repeat (first | apply rk_nil | (apply rk_skip; exact rfl) | (apply rk_ld; exact rfl; (repeat (first | with_reducible exact Pk.h | with_reducible apply Pk.t)); exact rfl)))) | ((with_reducible apply t_nx F11.k); exact rfl; exact rfl) | with_reducible apply m_seq | (with_reducible apply m_reg mix) | with_reducible apply m_block | ((with_reducible apply m_ct); exact rfl) | ((with_reducible apply m_cf); exact rfl) | ((with_reducible apply m_skn); exact rfl) | ((with_reducible apply m_exn); exact rfl)))
    refine t_bsl sl42 rfl rfl rfl rfl rfl rfl rfl rfl fun bs => ⟨(by (repeat (first | apply rk_nil | (apply rk_skip; exact rfl) | (apply rk_ld; exact rfl; (repeat (first | with_reducible exact Pk.h | with_reducible apply Pk.t)); exact rfl)))), ?_⟩
    try dsimp only [List.cons_append, List.nil_append]
    refine t_app sl42 rfl rfl rfl (by repeat (first | with_reducible exact Pk.h | with_reducible apply Pk.t)) (by repeat (first | with_reducible exact Pk.h | with_reducible apply Pk.t)) rfl (by decide) (by decide) rfl rfl rfl (by omega) (by omega) fun v' => ⟨(by (repeat (first | apply rk_nil | (apply rk_skip; exact rfl) | (apply rk_ld; exact rfl; (repeat (first | with_reducible exact Pk.h | with_reducible apply Pk.t)); exact rfl)))), ?_⟩
    try dsimp only [List.cons_append, List.nil_append]
    refine en_x (x := OwS 41 10 v' (i + 1) _) (OwS 41 10 v' (i + 1) (ics (L.take (i + 1))).flatten) (by repeat (first | with_reducible exact Pk.h | with_reducible apply Pk.t)) (by rw [hLt]; rfl) ?_
    (repeat (first | ((with_reducible apply t_run); exact rfl) | ((with_reducible apply t_p); exact rfl; exact rfl) | ((with_reducible apply t_gr); exact rfl) | ((with_reducible apply t_ge); exact rfl) | ((with_reducible apply t_ld); exact rfl; exact rfl; (repeat (first | with_reducible exact Pk.h | with_reducible apply Pk.t)); exact rfl) | ((with_reducible apply t_st); exact rfl; exact rfl; exact rfl; (repeat (first | with_reducible exact Pk.h | with_reducible apply Pk.t)); exact rfl; exact rfl; exact Nat.le_of_ble_eq_true rfl; exact rfl; (repeat (first | apply rk_nil | (apply rk_skip; exact rfl) | (apply rk_ld; exact rfl; (repeat (first | with_reducible exact Pk.h | with_reducible apply Pk.t)); exact rfl)))) | ((with_reducible apply t_nx F11.k); exact rfl; exact rfl) | with_reducible apply m_seq | (with_reducible apply m_reg mix) | with_reducible apply m_block | ((with_reducible apply m_ct); exact rfl) | ((with_reducible apply m_cf); exact rfl) | ((with_reducible apply m_skn); exact rfl) | ((with_reducible apply m_exn); exact rfl)))
    refine t_meet rfl (i + 1, v') ⟨hi', (by simp; omega)⟩ [16, 0, 3, 14, 15] ?_ (by repeat (first | apply Sx.nil | apply Pk.h | apply Sx.cons | apply Pk.t))
    rw [wrap_nat (by omega)]
    rfl
  · have hi' : i = keys.length := by have := of_decide_eq_false q; omega
    (repeat (first | ((with_reducible apply t_run); exact rfl) | ((with_reducible apply t_p); exact rfl; exact rfl) | ((with_reducible apply t_gr); exact rfl) | ((with_reducible apply t_ge); exact rfl) | ((with_reducible apply t_ld); exact rfl; exact rfl; (repeat (first | with_reducible exact Pk.h | with_reducible apply Pk.t)); exact rfl) | ((with_reducible apply t_st); exact rfl; exact rfl; exact rfl; (repeat (first | with_reducible exact Pk.h | with_reducible apply Pk.t)); exact rfl; exact rfl; exact Nat.le_of_ble_eq_true rfl; exact rfl; (repeat (first | apply rk_nil | (apply rk_skip; exact rfl) | (apply rk_ld; exact rfl; (repeat (first | with_reducible exact Pk.h | with_reducible apply Pk.t)); exact rfl)))) | ((with_reducible apply t_nx F11.k); exact rfl; exact rfl) | with_reducible apply m_seq | (with_reducible apply m_reg mix) | with_reducible apply m_block | ((with_reducible apply m_ct); exact rfl) | ((with_reducible apply m_cf); exact rfl) | ((with_reducible apply m_skn); exact rfl) | ((with_reducible apply m_exn); exact rfl)))
    rw [List.take_of_length_le (by omega), hi', ← hLn]
    apply m_ret
    · rfl
    · (repeat (first | apply rs_nil | (apply rs_tmp; exact rfl) | (apply rs_cell; exact rfl; (repeat (first | with_reducible exact Pk.h | with_reducible apply Pk.t)); exact rfl)))
    · exact rfl
    · exact (by repeat (first | apply Sx.nil | apply Pk.h | apply Sx.cons | apply Pk.t))
end Go.Proofs.Ythcbefkgfhokoaa

/- slices.Contains of transactions. -/
namespace Go.Proofs.Ythcbefkgfhokoaa
open Go Go.Dv
set_option maxRecDepth 100000
attribute [local irreducible] HTh HM En Fsp TrA Cl MpA OwS RdS MpO TabA HsA

def eqT (a b : Tx) : Bool := decide (a.c = b.c) && decide (a.n = b.n)
theorem Index_spec (R : HP) (v : Value) (ts : List Tx) (x : Tx) (hv : RdS R 2 v (ts.map Tx.cells)) (hl : ts.length < 9223372036854775808) :
    Fsp Try.prog 56 [v, x.V] [R] fun u aa' => (∃ j : Int, u = .int .i64 j ∧ decide (j ≥ 0) = ts.any (eqT x)) ∧ aa' = [R] := by
  obtain ⟨a, c, rfl⟩ := hv.len
  have hlen : (ts.map Tx.cells).length = ts.length := by simp
  rw [hlen] at hv ⊢
  obtain ⟨xc, xn⟩ := x
  refine spec_of F56.ok rfl fun gl X => ?_
  dsimp only [List.cons_append, List.nil_append]
  simp only [Tx.V]
  (repeat (first | ((with_reducible apply t_run); exact rfl) | ((with_reducible apply t_p); exact rfl; exact rfl) | ((with_reducible apply t_gr); exact rfl) | ((with_reducible apply t_ge); exact rfl) | ((with_reducible apply t_ld); exact rfl; exact rfl; (repeat (first | with_reducible exact Pk.h | with_reducible apply Pk.t)); exact rfl) | ((with_reducible apply t_st); exact rfl; exact rfl; exact rfl; (repeat (first | with_reducible exact Pk.h | with_reducible apply Pk.t)); exact rfl; exact rfl; exact Nat.le_of_ble_eq_true rfl; exact rfl; (repeat (first | apply rk_nil | (apply rk_skip; exact rfl) | (apply rk_ld; exact rfl; (repeat (first | with_reducible exact Pk.h | with_reducible apply Pk.t)); exact rfl)))) | ((with_reducible apply t_nx F56.k); exact rfl; exact rfl) | with_reducible apply m_seq | (with_reducible apply m_reg mix) | with_reducible apply m_block | ((with_reducible apply m_ct); exact rfl) | ((with_reducible apply m_cf); exact rfl) | ((with_reducible apply m_skn); exact rfl) | ((with_reducible apply m_exn); exact rfl)))
  refine t_bx rfl rfl rfl fun b3 => ⟨(by (repeat (first | apply rk_nil | (apply rk_skip; exact rfl) | (apply rk_ld; exact rfl; (repeat (first | with_reducible exact Pk.h | with_reducible apply Pk.t)); exact rfl)))), ?_⟩
  try dsimp only [List.cons_append, List.nil_append]
  (repeat (first | ((with_reducible apply t_run); exact rfl) | ((with_reducible apply t_p); exact rfl; exact rfl) | ((with_reducible apply t_gr); exact rfl) | ((with_reducible apply t_ge); exact rfl) | ((with_reducible apply t_ld); exact rfl; exact rfl; (repeat (first | with_reducible exact Pk.h | with_reducible apply Pk.t)); exact rfl) | ((with_reducible apply t_st); exact rfl; exact rfl; exact rfl; (repeat (first | with_reducible exact Pk.h | with_reducible apply Pk.t)); exact rfl; exact rfl; exact Nat.le_of_ble_eq_true rfl; exact rfl; (repeat (first | apply rk_nil | (apply rk_skip; exact rfl) | (apply rk_ld; exact rfl; (repeat (first | with_reducible exact Pk.h | with_reducible apply Pk.t)); exact rfl)))) | ((with_reducible apply t_nx F56.k); exact rfl; exact rfl) | with_reducible apply m_seq | (with_reducible apply m_reg mix) | with_reducible apply m_block | ((with_reducible apply m_ct); exact rfl) | ((with_reducible apply m_cf); exact rfl) | ((with_reducible apply m_skn); exact rfl) | ((with_reducible apply m_exn); exact rfl)))
  refine m_lp (α := Nat) (fun i => [(8, .int .i64 (i : Nat)), (0, .slice a ts.length c), (3, .pointer (some ⟨b3, 0, none⟩)), (7, .int .i64 (ts.length : Nat))]) (fun _ => [R, Cl b3 25 [.int .u32 xc, .int .u32 xn], X]) (fun i => i ≤ ts.length ∧ (ts.drop i).any (eqT ⟨xc, xn⟩) = ts.any (eqT ⟨xc, xn⟩)) (fun i => ts.length - i) ?_ 0 ⟨by omega, rfl⟩ [8, 0, 3, 7] rfl (by repeat (first | apply Sx.nil | apply Pk.h | apply Sx.cons | apply Pk.t))
  rintro i ⟨hi, ho⟩
  (repeat (first | ((with_reducible apply t_run); exact rfl) | ((with_reducible apply t_p); exact rfl; exact rfl) | ((with_reducible apply t_gr); exact rfl) | ((with_reducible apply t_ge); exact rfl) | ((with_reducible apply t_ld); exact rfl; exact rfl; (repeat (first | with_reducible exact Pk.h | with_reducible apply Pk.t)); exact rfl) | ((with_reducible apply t_st); exact rfl; exact rfl; exact rfl; (repeat (first | with_reducible exact Pk.h | with_reducible apply Pk.t)); exact rfl; exact rfl; exact Nat.le_of_ble_eq_true rfl; exact rfl; (repeat (first | apply rk_nil | (apply rk_skip; exact rfl) | (apply rk_ld; exact rfl; (repeat (first | with_reducible exact Pk.h | with_reducible apply Pk.t)); exact rfl)))) | ((with_reducible apply t_nx F56.k); exact rfl; exact rfl) | with_reducible apply m_seq | (with_reducible apply m_reg mix) | with_reducible apply m_block | ((with_reducible apply m_ct); exact rfl) | ((with_reducible apply m_cf); exact rfl) | ((with_reducible apply m_skn); exact rfl) | ((with_reducible apply m_exn); exact rfl)))
  refine m_cond rfl (fun q => ?_) (fun q => ?_)
  · have hi' : i < ts.length := by have := of_decide_eq_true q; omega
    obtain ⟨b, o, rfl, _⟩ := hv.ptr (by rw [hlen]; omega)
    have hd : (ts.drop i).any (eqT ⟨xc, xn⟩) = (eqT ⟨xc, xn⟩ ts[i] || (ts.drop (i + 1)).any (eqT ⟨xc, xn⟩)) := by rw [List.drop_eq_getElem_cons hi', List.any_cons]
    rw [hd] at ho
    (repeat (first | ((with_reducible apply t_run); exact rfl) | ((with_reducible apply t_p); exact rfl; exact rfl) | ((with_reducible apply t_gr); exact rfl) | ((with_reducible apply t_ge); exact rfl) | ((with_reducible apply t_ld); exact rfl; exact rfl; (repeat (first | with_reducible exact Pk.h | with_reducible apply Pk.t)); exact rfl) | ((with_reducible apply t_st); exact rfl; exact rfl; exact rfl; (repeat (first | with_reducible exact Pk.h | with_reducible apply Pk.t)); exact rfl; exact rfl; exact Nat.le_of_ble_eq_true rfl; exact rfl; (repeat (first | apply rk_nil | (apply rk_skip; exact rfl) | (apply rk_ld; exact rfl; (repeat (first | with_reducible exact Pk.h | with_reducible apply Pk.t)); exact rfl)))) | ((with_reducible apply t_nx F56.k); exact rfl; exact rfl) | with_reducible apply m_seq | (with_reducible apply m_reg mix) | with_reducible apply m_block | ((with_reducible apply m_ct); exact rfl) | ((with_reducible apply m_cf); exact rfl) | ((with_reducible apply m_skn); exact rfl) | ((with_reducible apply m_exn); exact rfl)))
    refine t_ia i rfl rfl rfl hi' ?_
    refine t_la rfl rfl (R := R) (by repeat (first | with_reducible exact Pk.h | with_reducible apply Pk.t)) (hv.at (by decide) (i := i) (x := ts[i].cells) (by simp [hi'])) ?_
    simp only [Tx.cells]
    (repeat (first | ((with_reducible apply t_run); exact rfl) | ((with_reducible apply t_p); exact rfl; exact rfl) | ((with_reducible apply t_gr); exact rfl) | ((with_reducible apply t_ge); exact rfl) | ((with_reducible apply t_ld); exact rfl; exact rfl; (repeat (first | with_reducible exact Pk.h | with_reducible apply Pk.t)); exact rfl) | ((with_reducible apply t_st); exact rfl; exact rfl; exact rfl; (repeat (first | with_reducible exact Pk.h | with_reducible apply Pk.t)); exact rfl; exact rfl; exact Nat.le_of_ble_eq_true rfl; exact rfl; (repeat (first | apply rk_nil | (apply rk_skip; exact rfl) | (apply rk_ld; exact rfl; (repeat (first | with_reducible exact Pk.h | with_reducible apply Pk.t)); exact rfl)))) | ((with_reducible apply t_nx F56.k); exact rfl; exact rfl) | with_reducible apply m_seq | (with_reducible apply m_reg mix) | with_reducible apply m_block | ((with_reducible apply m_ct); exact rfl) | ((with_reducible apply m_cf); exact rfl) | ((with_reducible apply m_skn); exact rfl) | ((with_reducible apply m_exn); exact rfl)))
    have key : ∀ z : Bool, z = eqT ⟨xc, xn⟩ ts[i] → z = eqT ⟨xc, xn⟩ ts[i] := fun _ h => h
    refine m_cond rfl (fun q2 => ?_) (fun q2 => ?_)
    · (repeat (first | ((with_reducible apply t_run); exact rfl) | ((with_reducible apply t_p); exact rfl; exact rfl) | ((with_reducible apply t_gr); exact rfl) | ((with_reducible apply t_ge); exact rfl) | ((with_reducible apply t_ld); exact rfl; exact rfl; (repeat (first | with_reducible exact Pk.h | with_reducible apply Pk.t)); exact rfl) | ((with_reducible apply t_st); exact rfl; exact rfl; exact rfl; (repeat (first | with_reducible exact Pk.h | with_reducible apply Pk.t)); exact rfl; exact rfl; exact Nat.le_of_ble_eq_true rfl; exact rfl; (repeat (first | apply rk_nil | (apply rk_skip; exact rfl) | (apply rk_ld; exact rfl; (repeat (first | with_reducible exact Pk.h | with_reducible apply Pk.t)); exact rfl)))) | ((with_reducible apply t_nx F56.k); exact rfl; exact rfl) | with_reducible apply m_seq | (with_reducible apply m_reg mix) | with_reducible apply m_block | ((with_reducible apply m_ct); exact rfl) | ((with_reducible apply m_cf); exact rfl) | ((with_reducible apply m_skn); exact rfl) | ((with_reducible apply m_exn); exact rfl)))
      have q3 : eqT ⟨xc, xn⟩ ts[i] = true := by simpa [eqT] using q2
      rw [q3, Bool.true_or] at ho
      apply m_ret
      · rfl
      · (repeat (first | apply rs_nil | (apply rs_tmp; exact rfl) | (apply rs_cell; exact rfl; (repeat (first | with_reducible exact Pk.h | with_reducible apply Pk.t)); exact rfl)))
      · exact ⟨⟨_, rfl, by rw [← ho]; simp⟩, rfl⟩
      · exact (by repeat (first | apply Sx.nil | apply Pk.h | apply Sx.cons | apply Pk.t))
    · (repeat (first | ((with_reducible apply t_run); exact rfl) | ((with_reducible apply t_p); exact rfl; exact rfl) | ((with_reducible apply t_gr); exact rfl) | ((with_reducible apply t_ge); exact rfl) | ((with_reducible apply t_ld); exact rfl; exact rfl; (repeat (first | with_reducible exact Pk.h | with_reducible apply Pk.t)); exact rfl) | ((with_reducible apply t_st); exact rfl; exact rfl; exact rfl; (repeat (first | with_reducible exact Pk.h | with_reducible apply Pk.t)); exact rfl; exact rfl; exact Nat.le_of_ble_eq_true rfl; exact rfl; (repeat (first | apply rk_nil | (apply rk_skip; exact rfl) | (apply rk_ld; exact rfl; (repeat (first | with_reducible exact Pk.h | with_reducible apply Pk.t)); exact rfl)))) | ((with_reducible apply t_nx F56.k); exact rfl; exact rfl) | with_reducible apply m_seq | (with_reducible apply m_reg mix) | with_reducible apply m_block | ((with_reducible apply m_ct); exact rfl) | ((with_reducible apply m_cf); exact rfl) | ((with_reducible apply m_skn); exact rfl) | ((with_reducible apply m_exn); exact rfl)))
      have q3 : eqT ⟨xc, xn⟩ ts[i] = false := by simpa [eqT] using q2
      rw [q3, Bool.false_or] at ho
      refine t_meet rfl (i + 1) ⟨⟨by omega, ho⟩, by omega⟩ [8, 0, 3, 7] ?_ (by repeat (first | apply Sx.nil | apply Pk.h | apply Sx.cons | apply Pk.t))
      rw [wrap_nat (by omega)]
      rfl
  · have hi' : i = ts.length := by have := of_decide_eq_false q; omega
    (repeat (first | ((with_reducible apply t_run); exact rfl) | ((with_reducible apply t_p); exact rfl; exact rfl) | ((with_reducible apply t_gr); exact rfl) | ((with_reducible apply t_ge); exact rfl) | ((with_reducible apply t_ld); exact rfl; exact rfl; (repeat (first | with_reducible exact Pk.h | with_reducible apply Pk.t)); exact rfl) | ((with_reducible apply t_st); exact rfl; exact rfl; exact rfl; (repeat (first | with_reducible exact Pk.h | with_reducible apply Pk.t)); exact rfl; exact rfl; exact Nat.le_of_ble_eq_true rfl; exact rfl; (repeat (first | apply rk_nil | (apply rk_skip; exact rfl) | (apply rk_ld; exact rfl; (repeat (first | with_reducible exact Pk.h | with_reducible apply Pk.t)); exact rfl)))) | ((with_reducible apply t_nx F56.k); exact rfl; exact rfl) | with_reducible apply m_seq | (with_reducible apply m_reg mix) | with_reducible apply m_block | ((with_reducible apply m_ct); exact rfl) | ((with_reducible apply m_cf); exact rfl) | ((with_reducible apply m_skn); exact rfl) | ((with_reducible apply m_exn); exact rfl)))
    subst hi'
    rw [List.drop_length, List.any_nil] at ho
    apply m_ret
    · rfl
    · (repeat (first | apply rs_nil | (apply rs_tmp; exact rfl) | (apply rs_cell; exact rfl; (repeat (first | with_reducible exact Pk.h | with_reducible apply Pk.t)); exact rfl)))
    · exact ⟨⟨_, rfl, by rw [← ho]; rfl⟩, rfl⟩
    · exact (by repeat (first | apply Sx.nil | apply Pk.h | apply Sx.cons | apply Pk.t))

theorem Contains_spec (R : HP) (v : Value) (ts : List Tx) (x : Tx) (hv : RdS R 2 v (ts.map Tx.cells)) (hl : ts.length < 9223372036854775808) :
    Fsp Try.prog 38 [v, x.V] [R] fun u aa' => u = .bool (ts.any (eqT x)) ∧ aa' = [R] := by
  have h := Index_spec R v ts x hv hl
  obtain ⟨a, c, rfl⟩ := hv.len
  obtain ⟨xc, xn⟩ := x
  refine spec_of F38.ok rfl fun gl X => ?_
  dsimp only [List.cons_append, List.nil_append]
  simp only [Tx.V] at h ⊢
  (repeat (first | ((with_reducible apply t_run); exact rfl) | ((with_reducible apply t_p); exact rfl; exact rfl) | ((with_reducible apply t_gr); exact rfl) | ((with_reducible apply t_ge); exact rfl) | ((with_reducible apply t_ld); exact rfl; exact rfl; (repeat (first | with_reducible exact Pk.h | with_reducible apply Pk.t)); exact rfl) | ((with_reducible apply t_st); exact rfl; exact rfl; exact rfl; (repeat (first | with_reducible exact Pk.h | with_reducible apply Pk.t)); exact rfl; exact rfl; exact Nat.le_of_ble_eq_true rfl; exact rfl; (repeat (first | apply rk_nil | (apply rk_skip; exact rfl) | (apply rk_ld; exact rfl; (repeat (first | with_reducible exact Pk.h | with_reducible apply Pk.t)); exact rfl)))) | ((with_reducible apply t_nx F38.k); exact rfl; exact rfl) | with_reducible apply m_seq | (with_reducible apply m_reg mix) | with_reducible apply m_block | ((with_reducible apply m_ct); exact rfl) | ((with_reducible apply m_cf); exact rfl) | ((with_reducible apply m_skn); exact rfl) | ((with_reducible apply m_exn); exact rfl)))
  refine t_bx rfl rfl rfl fun b3 => ⟨(by (repeat (first | apply rk_nil | (apply rk_skip; exact rfl) | (apply rk_ld; exact rfl; (repeat (first | with_reducible exact Pk.h | with_reducible apply Pk.t)); exact rfl)))), ?_⟩
  try dsimp only [List.cons_append, List.nil_append]
  (repeat (first | ((with_reducible apply t_run); exact rfl) | ((with_reducible apply t_p); exact rfl; exact rfl) | ((with_reducible apply t_gr); exact rfl) | ((with_reducible apply t_ge); exact rfl) | ((with_reducible apply t_ld); exact rfl; exact rfl; (repeat (first | with_reducible exact Pk.h | with_reducible apply Pk.t)); exact rfl) | ((with_reducible apply t_st); exact rfl; exact rfl; exact rfl; (repeat (first | with_reducible exact Pk.h | with_reducible apply Pk.t)); exact rfl; exact rfl; exact Nat.le_of_ble_eq_true rfl; exact rfl; (repeat (first | apply rk_nil | (apply rk_skip; exact rfl) | (apply rk_ld; exact rfl; (repeat (first | with_reducible exact Pk.h | with_reducible apply Pk.t)); exact rfl)))) | ((with_reducible apply t_nx F38.k); exact rfl; exact rfl) | with_reducible apply m_seq | (with_reducible apply m_reg mix) | with_reducible apply m_block | ((with_reducible apply m_ct); exact rfl) | ((with_reducible apply m_cf); exact rfl) | ((with_reducible apply m_skn); exact rfl) | ((with_reducible apply m_exn); exact rfl)))
  refine t_cl rfl rfl (h) (by repeat (first | apply Sx.nil | apply Pk.h | apply Sx.cons | apply Pk.t)) ?_
  rintro _ _ ⟨⟨j, rfl, hj⟩, rfl⟩
  refine ⟨?_, ?_⟩ <;> (try dsimp only [List.cons_append, List.nil_append])
  · (repeat (first | apply rk_nil | (apply rk_skip; exact rfl) | (apply rk_ld; exact rfl; (repeat (first | with_reducible exact Pk.h | with_reducible apply Pk.t)); exact rfl)))
  (repeat (first | ((with_reducible apply t_run); exact rfl) | ((with_reducible apply t_p); exact rfl; exact rfl) | ((with_reducible apply t_gr); exact rfl) | ((with_reducible apply t_ge); exact rfl) | ((with_reducible apply t_ld); exact rfl; exact rfl; (repeat (first | with_reducible exact Pk.h | with_reducible apply Pk.t)); exact rfl) | ((with_reducible apply t_st); exact rfl; exact rfl; exact rfl; (repeat (first | with_reducible exact Pk.h | with_reducible apply Pk.t)); exact rfl; exact rfl; exact Nat.le_of_ble_eq_true rfl; exact rfl; (repeat (first | apply rk_nil | (apply rk_skip; exact rfl) | (apply rk_ld; exact rfl; (repeat (first | with_reducible exact Pk.h | with_reducible apply Pk.t)); exact rfl)))) | ((with_reducible apply t_nx F38.k); exact rfl; exact rfl) | with_reducible apply m_seq | (with_reducible apply m_reg mix) | with_reducible apply m_block | ((with_reducible apply m_ct); exact rfl) | ((with_reducible apply m_cf); exact rfl) | ((with_reducible apply m_skn); exact rfl) | ((with_reducible apply m_exn); exact rfl)))
  apply m_ret
  · rfl
  · (repeat (first | apply rs_nil | (apply rs_tmp; exact rfl) | (apply rs_cell; exact rfl; (repeat (first | with_reducible exact Pk.h | with_reducible apply Pk.t)); exact rfl)))
  · exact ⟨by rw [← hj]; rfl, rfl⟩
  · exact (by repeat (first | apply Sx.nil | apply Pk.h | apply Sx.cons | apply Pk.t))
end Go.Proofs.Ythcbefkgfhokoaa

/- First. -/
namespace Go.Proofs.Ythcbefkgfhokoaa
open Go Go.Dv
set_option maxRecDepth 100000
attribute [local irreducible] HTh HM En Fsp TrA Cl MpA OwS RdS MpO TabA HsA

def stands (s : Sm) (but : List Tx) (y : In) : Bool := !s.lt y.min && !but.any (eqT y.tx)
def fstR : Option In → Value
  | none => .tuple #[zIn.V, .bool false]
  | some y => .tuple #[y.V, .bool true]
theorem First_spec (R : HP) (t : Nat) (hs : List Hold) (keys : KL) (f o : ByteArray) (s : Sm) (bv : Value) (but : List Tx) (g : ByteArray → In)
    (hb : RdS R 2 bv (but.map Tx.cells)) (hbl : but.length < 9223372036854775808) (hl : keys.length ≤ 1073741824)
    (hg : ∀ k ∈ rngL f o keys, ∃ ow, getK keys k = some ow ∧ Of1 hs ow (g k)) :
    Fsp Try.prog 12 [.pointer (some ⟨t, 0, none⟩), .string f, .string o, s.V, bv] [TabA t hs keys, R] fun u aa' => u = fstR (((rngL f o keys).map g).find? (stands s but)) ∧ aa' = [TabA t hs keys, R] := by
  have hLess := fun y => Less_spec s y
  have hrl : (rngL f o keys).length ≤ keys.length := by
    have := List.length_filter_le (inR f o) (keys.map (·.1))
    rw [List.length_map] at this
    exact this
  have hCont := fun x => Contains_spec R bv but x hb hbl
  obtain ⟨ba, bc, rfl⟩ := hb.len
  have hst : stands s but = fun y => !s.lt y.min && !but.any (eqT y.tx) := rfl
  rw [hst]
  obtain ⟨p, l⟩ := s
  refine spec_of F12.ok rfl fun gl X => ?_
  dsimp only [List.cons_append, List.nil_append]
  simp only [Sm.V] at hLess ⊢
  refine en_tab (by repeat (first | with_reducible exact Pk.h | with_reducible apply Pk.t)) fun hb2 m => ?_
  (repeat (first | ((with_reducible apply t_run); exact rfl) | ((with_reducible apply t_p); exact rfl; exact rfl) | ((with_reducible apply t_gr); exact rfl) | ((with_reducible apply t_ge); exact rfl) | ((with_reducible apply t_ld); exact rfl; exact rfl; (repeat (first | with_reducible exact Pk.h | with_reducible apply Pk.t)); exact rfl) | ((with_reducible apply t_st); exact rfl; exact rfl; exact rfl; (repeat (first | with_reducible exact Pk.h | with_reducible apply Pk.t)); exact rfl; exact rfl; exact Nat.le_of_ble_eq_true rfl; exact rfl; (repeat (first | apply rk_nil | (apply rk_skip; exact rfl) | (apply rk_ld; exact rfl; (repeat (first | with_reducible exact Pk.h | with_reducible apply Pk.t)); exact rfl)))) | ((with_reducible apply t_nx F12.k); exact rfl; exact rfl) | with_reducible apply m_seq | (with_reducible apply m_reg mix) | with_reducible apply m_block | ((with_reducible apply m_ct); exact rfl) | ((with_reducible apply m_cf); exact rfl) | ((with_reducible apply m_skn); exact rfl) | ((with_reducible apply m_exn); exact rfl)))
  refine t_bx rfl rfl rfl fun b8 => ⟨(by (repeat (first | apply rk_nil | (apply rk_skip; exact rfl) | (apply rk_ld; exact rfl; (repeat (first | with_reducible exact Pk.h | with_reducible apply Pk.t)); exact rfl)))), ?_⟩
  try dsimp only [List.cons_append, List.nil_append]
  (repeat (first | ((with_reducible apply t_run); exact rfl) | ((with_reducible apply t_p); exact rfl; exact rfl) | ((with_reducible apply t_gr); exact rfl) | ((with_reducible apply t_ge); exact rfl) | ((with_reducible apply t_ld); exact rfl; exact rfl; (repeat (first | with_reducible exact Pk.h | with_reducible apply Pk.t)); exact rfl) | ((with_reducible apply t_st); exact rfl; exact rfl; exact rfl; (repeat (first | with_reducible exact Pk.h | with_reducible apply Pk.t)); exact rfl; exact rfl; exact Nat.le_of_ble_eq_true rfl; exact rfl; (repeat (first | apply rk_nil | (apply rk_skip; exact rfl) | (apply rk_ld; exact rfl; (repeat (first | with_reducible exact Pk.h | with_reducible apply Pk.t)); exact rfl)))) | ((with_reducible apply t_nx F12.k); exact rfl; exact rfl) | with_reducible apply m_seq | (with_reducible apply m_reg mix) | with_reducible apply m_block | ((with_reducible apply m_ct); exact rfl) | ((with_reducible apply m_cf); exact rfl) | ((with_reducible apply m_skn); exact rfl) | ((with_reducible apply m_exn); exact rfl)))
  refine t_al rfl fun b10 => ⟨(by (repeat (first | apply rk_nil | (apply rk_skip; exact rfl) | (apply rk_ld; exact rfl; (repeat (first | with_reducible exact Pk.h | with_reducible apply Pk.t)); exact rfl)))), ?_⟩
  (repeat (first | ((with_reducible apply t_run); exact rfl) | ((with_reducible apply t_p); exact rfl; exact rfl) | ((with_reducible apply t_gr); exact rfl) | ((with_reducible apply t_ge); exact rfl) | ((with_reducible apply t_ld); exact rfl; exact rfl; (repeat (first | with_reducible exact Pk.h | with_reducible apply Pk.t)); exact rfl) | ((with_reducible apply t_st); exact rfl; exact rfl; exact rfl; (repeat (first | with_reducible exact Pk.h | with_reducible apply Pk.t)); exact rfl; exact rfl; exact Nat.le_of_ble_eq_true rfl; exact rfl; (repeat (first | apply rk_nil | (apply rk_skip; exact rfl) | (apply rk_ld; exact rfl; (repeat (first | with_reducible exact Pk.h | with_reducible apply Pk.t)); exact rfl)))) | ((with_reducible apply t_nx F12.k); exact rfl; exact rfl) | with_reducible apply m_seq | (with_reducible apply m_reg mix) | with_reducible apply m_block | ((with_reducible apply m_ct); exact rfl) | ((with_reducible apply m_cf); exact rfl) | ((with_reducible apply m_skn); exact rfl) | ((with_reducible apply m_exn); exact rfl)))
  refine t_cl rfl rfl (Keys_spec m f o keys) (by repeat (first | apply Sx.nil | apply Pk.h | apply Sx.cons | apply Pk.t)) ?_
  rintro _ _ ⟨sa, sc, rfl, rfl⟩
  refine ⟨?_, ?_⟩ <;> (try dsimp only [List.cons_append, List.nil_append])
  · (repeat (first | apply rk_nil | (apply rk_skip; exact rfl) | (apply rk_ld; exact rfl; (repeat (first | with_reducible exact Pk.h | with_reducible apply Pk.t)); exact rfl)))
  generalize rngL f o keys = ks at hg hrl ⊢
  refine en_mktab (t := t) (hb := hb2) (m := m) (hs := hs) (keys := keys) (by repeat (first | apply Sx.nil | apply Pk.h | apply Sx.cons | apply Pk.t)) ?_
  (repeat (first | ((with_reducible apply t_run); exact rfl) | ((with_reducible apply t_p); exact rfl; exact rfl) | ((with_reducible apply t_gr); exact rfl) | ((with_reducible apply t_ge); exact rfl) | ((with_reducible apply t_ld); exact rfl; exact rfl; (repeat (first | with_reducible exact Pk.h | with_reducible apply Pk.t)); exact rfl) | ((with_reducible apply t_st); exact rfl; exact rfl; exact rfl; (repeat (first | with_reducible exact Pk.h | with_reducible apply Pk.t)); exact rfl; exact rfl; exact Nat.le_of_ble_eq_true rfl; exact rfl; (repeat (first | apply rk_nil | (apply rk_skip; exact rfl) | (apply rk_ld; exact rfl; (repeat (first | with_reducible exact Pk.h | with_reducible apply Pk.t)); exact rfl)))) | ((with_reducible apply t_nx F12.k); exact rfl; exact rfl) | with_reducible apply m_seq | (with_reducible apply m_reg mix) | with_reducible apply m_block | ((with_reducible apply m_ct); exact rfl) | ((with_reducible apply m_cf); exact rfl) | ((with_reducible apply m_skn); exact rfl) | ((with_reducible apply m_exn); exact rfl)))
  have hflat := ksl_flat ks
  rw [← hflat]
  have hkn : (ksl ks).length = ks.length := by simp [ksl]
  generalize hn : (ba, bc, but.length) = bb
  refine m_lp (α := Nat) (fun i => [(27, .int .i64 (i : Nat)), (0, .pointer (some ⟨t, 0, none⟩)), (8, .pointer (some ⟨b8, 0, none⟩)), (10, .pointer (some ⟨b10, 0, none⟩)), (4, .slice ba (but.map Tx.cells).length bc), (25, .slice sa ks.length sc), (26, .int .i64 (ks.length : Nat))])
    (fun i => [TabA t hs keys, OwS 9 1 (.slice sa ks.length sc) ks.length (ksl ks).flatten, Cl b8 28 [.int .u64 p, .int .u32 l], Cl b10 41 zIn.cells, R, X])
    (fun i => i ≤ ks.length ∧ ((ks.drop i).map g).find? (fun y => !(Sm.mk p l).lt y.min && !but.any (eqT y.tx)) = (ks.map g).find? (fun y => !(Sm.mk p l).lt y.min && !but.any (eqT y.tx))) (fun i => ks.length - i) ?_ 0 ⟨by omega, rfl⟩ [27, 0, 8, 10, 4, 25, 26] rfl (by repeat (first | apply Sx.nil | apply Pk.h | apply Sx.cons | apply Pk.t))
  rintro i ⟨hi, ho⟩
  (repeat (first | ((with_reducible apply t_run); exact rfl) | ((with_reducible apply t_p); exact rfl; exact rfl) | ((with_reducible apply t_gr); exact rfl) | ((with_reducible apply t_ge); exact rfl) | ((with_reducible apply t_ld); exact rfl; exact rfl; (repeat (first | with_reducible exact Pk.h | with_reducible apply Pk.t)); exact rfl) | ((with_reducible apply t_st); exact rfl; exact rfl; exact rfl; (repeat (first | with_reducible exact Pk.h | with_reducible apply Pk.t)); exact rfl; exact rfl; exact Nat.le_of_ble_eq_true rfl; exact rfl; (repeat (first | apply rk_nil | (apply rk_skip; exact rfl) | (apply rk_ld; exact rfl; (repeat (first | with_reducible exact Pk.h | with_reducible apply Pk.t)); exact rfl)))) | ((with_reducible apply t_nx F12.k); exact rfl; exact rfl) | with_reducible apply m_seq | (with_reducible apply m_reg mix) | with_reducible apply m_block | ((with_reducible apply m_ct); exact rfl) | ((with_reducible apply m_cf); exact rfl) | ((with_reducible apply m_skn); exact rfl) | ((with_reducible apply m_exn); exact rfl)))
  refine m_cond rfl (fun q => ?_) (fun q => ?_)
  · have hi' : i < ks.length := by have := of_decide_eq_true q; omega
    refine en_rds (kz := 1) (m := ks.length) (xs := ksl ks) (by intro x hx; obtain ⟨k, _, rfl⟩ := List.mem_map.1 hx; rfl) (by omega) hkn.symm (by repeat (first | with_reducible exact Pk.h | with_reducible apply Pk.t)) fun hv => ?_
    obtain ⟨b, o, rfl, _⟩ := hv.ptr (by omega)
    obtain ⟨ow, hget, x, hx, hxt, hxok, hge⟩ := hg ks[i] (List.getElem_mem hi')
    rw [List.drop_eq_getElem_cons hi', List.map_cons, List.find?_cons, hge] at ho
    (repeat (first | ((with_reducible apply t_run); exact rfl) | ((with_reducible apply t_p); exact rfl; exact rfl) | ((with_reducible apply t_gr); exact rfl) | ((with_reducible apply t_ge); exact rfl) | ((with_reducible apply t_ld); exact rfl; exact rfl; (repeat (first | with_reducible exact Pk.h | with_reducible apply Pk.t)); exact rfl) | ((with_reducible apply t_st); exact rfl; exact rfl; exact rfl; (repeat (first | with_reducible exact Pk.h | with_reducible apply Pk.t)); exact rfl; exact rfl; exact Nat.le_of_ble_eq_true rfl; exact rfl; (repeat (first | apply rk_nil | (apply rk_skip; exact rfl) | (apply rk_ld; exact rfl; (repeat (first | with_reducible exact Pk.h | with_reducible apply Pk.t)); exact rfl)))) | ((with_reducible apply t_nx F12.k); exact rfl; exact rfl) | with_reducible apply m_seq | (with_reducible apply m_reg mix) | with_reducible apply m_block | ((with_reducible apply m_ct); exact rfl) | ((with_reducible apply m_cf); exact rfl) | ((with_reducible apply m_skn); exact rfl) | ((with_reducible apply m_exn); exact rfl)))
    refine t_ia i rfl rfl rfl hi' ?_
    refine t_la rfl rfl (R := OwS 9 1 (.slice (some ⟨b, o, none⟩) ks.length sc) ks.length (ksl ks).flatten) (by repeat (first | with_reducible exact Pk.h | with_reducible apply Pk.t)) (hv.at1 (i := i) (v := .string ks[i]) (by simp [ksl, hi'])) ?_
    (repeat (first | ((with_reducible apply t_run); exact rfl) | ((with_reducible apply t_p); exact rfl; exact rfl) | ((with_reducible apply t_gr); exact rfl) | ((with_reducible apply t_ge); exact rfl) | ((with_reducible apply t_ld); exact rfl; exact rfl; (repeat (first | with_reducible exact Pk.h | with_reducible apply Pk.t)); exact rfl) | ((with_reducible apply t_st); exact rfl; exact rfl; exact rfl; (repeat (first | with_reducible exact Pk.h | with_reducible apply Pk.t)); exact rfl; exact rfl; exact Nat.le_of_ble_eq_true rfl; exact rfl; (repeat (first | apply rk_nil | (apply rk_skip; exact rfl) | (apply rk_ld; exact rfl; (repeat (first | with_reducible exact Pk.h | with_reducible apply Pk.t)); exact rfl)))) | ((with_reducible apply t_nx F12.k); exact rfl; exact rfl) | with_reducible apply m_seq | (with_reducible apply m_reg mix) | with_reducible apply m_block | ((with_reducible apply m_ct); exact rfl) | ((with_reducible apply m_cf); exact rfl) | ((with_reducible apply m_skn); exact rfl) | ((with_reducible apply m_exn); exact rfl)))
    refine t_cl rfl rfl (Of_some t hs keys ks[i] ow x hget hx hxt hxok) (by repeat (first | apply Sx.nil | apply Pk.h | apply Sx.cons | apply Pk.t)) ?_
    rintro _ _ ⟨rfl, rfl⟩
    refine ⟨?_, ?_⟩ <;> (try dsimp only [List.cons_append, List.nil_append])
    · (repeat (first | apply rk_nil | (apply rk_skip; exact rfl) | (apply rk_ld; exact rfl; (repeat (first | with_reducible exact Pk.h | with_reducible apply Pk.t)); exact rfl)))
    (repeat (first | ((with_reducible apply t_run); exact rfl) | ((with_reducible apply t_p); exact rfl; exact rfl) | ((with_reducible apply t_gr); exact rfl) | ((with_reducible apply t_ge); exact rfl) | ((with_reducible apply t_ld); exact rfl; exact rfl; (repeat (first | with_reducible exact Pk.h | with_reducible apply Pk.t)); exact rfl) | ((with_reducible apply t_st); exact rfl; exact rfl; exact rfl; (repeat (first | with_reducible exact Pk.h | with_reducible apply Pk.t)); exact rfl; exact rfl; exact Nat.le_of_ble_eq_true rfl; exact rfl; (repeat (first | apply rk_nil | (apply rk_skip; exact rfl) | (apply rk_ld; exact rfl; (repeat (first | with_reducible exact Pk.h | with_reducible apply Pk.t)); exact rfl)))) | ((with_reducible apply t_nx F12.k); exact rfl; exact rfl) | with_reducible apply m_seq | (with_reducible apply m_reg mix) | with_reducible apply m_block | ((with_reducible apply m_ct); exact rfl) | ((with_reducible apply m_cf); exact rfl) | ((with_reducible apply m_skn); exact rfl) | ((with_reducible apply m_exn); exact rfl)))
    refine t_al rfl fun b14 => ⟨(by (repeat (first | apply rk_nil | (apply rk_skip; exact rfl) | (apply rk_ld; exact rfl; (repeat (first | with_reducible exact Pk.h | with_reducible apply Pk.t)); exact rfl)))), ?_⟩
    (repeat (first | ((with_reducible apply t_run); exact rfl) | ((with_reducible apply t_p); exact rfl; exact rfl) | ((with_reducible apply t_gr); exact rfl) | ((with_reducible apply t_ge); exact rfl) | ((with_reducible apply t_ld); exact rfl; exact rfl; (repeat (first | with_reducible exact Pk.h | with_reducible apply Pk.t)); exact rfl) | ((with_reducible apply t_st); exact rfl; exact rfl; exact rfl; (repeat (first | with_reducible exact Pk.h | with_reducible apply Pk.t)); exact rfl; exact rfl; exact Nat.le_of_ble_eq_true rfl; exact rfl; (repeat (first | apply rk_nil | (apply rk_skip; exact rfl) | (apply rk_ld; exact rfl; (repeat (first | with_reducible exact Pk.h | with_reducible apply Pk.t)); exact rfl)))) | ((with_reducible apply t_nx F12.k); exact rfl; exact rfl) | with_reducible apply m_seq | (with_reducible apply m_reg mix) | with_reducible apply m_block | ((with_reducible apply m_ct); exact rfl) | ((with_reducible apply m_cf); exact rfl) | ((with_reducible apply m_skn); exact rfl) | ((with_reducible apply m_exn); exact rfl)))
    refine t_cl rfl rfl (hLess x.hd.min) (by repeat (first | apply Sx.nil | apply Pk.h | apply Sx.cons | apply Pk.t)) ?_
    rintro _ _ ⟨rfl, rfl⟩
    refine ⟨?_, ?_⟩ <;> (try dsimp only [List.cons_append, List.nil_append])
    · (repeat (first | apply rk_nil | (apply rk_skip; exact rfl) | (apply rk_ld; exact rfl; (repeat (first | with_reducible exact Pk.h | with_reducible apply Pk.t)); exact rfl)))
    (repeat (first | ((with_reducible apply t_run); exact rfl) | ((with_reducible apply t_p); exact rfl; exact rfl) | ((with_reducible apply t_gr); exact rfl) | ((with_reducible apply t_ge); exact rfl) | ((with_reducible apply t_ld); exact rfl; exact rfl; (repeat (first | with_reducible exact Pk.h | with_reducible apply Pk.t)); exact rfl) | ((with_reducible apply t_st); exact rfl; exact rfl; exact rfl; (repeat (first | with_reducible exact Pk.h | with_reducible apply Pk.t)); exact rfl; exact rfl; exact Nat.le_of_ble_eq_true rfl; exact rfl; (repeat (first | apply rk_nil | (apply rk_skip; exact rfl) | (apply rk_ld; exact rfl; (repeat (first | with_reducible exact Pk.h | with_reducible apply Pk.t)); exact rfl)))) | ((with_reducible apply t_nx F12.k); exact rfl; exact rfl) | with_reducible apply m_seq | (with_reducible apply m_reg mix) | with_reducible apply m_block | ((with_reducible apply m_ct); exact rfl) | ((with_reducible apply m_cf); exact rfl) | ((with_reducible apply m_skn); exact rfl) | ((with_reducible apply m_exn); exact rfl)))
    refine t_spl 42 rfl (fun q1 => ?_) (fun q1 => ?_)
    · (repeat (first | ((with_reducible apply t_run); exact rfl) | ((with_reducible apply t_p); exact rfl; exact rfl) | ((with_reducible apply t_gr); exact rfl) | ((with_reducible apply t_ge); exact rfl) | ((with_reducible apply t_ld); exact rfl; exact rfl; (repeat (first | with_reducible exact Pk.h | with_reducible apply Pk.t)); exact rfl) | ((with_reducible apply t_st); exact rfl; exact rfl; exact rfl; (repeat (first | with_reducible exact Pk.h | with_reducible apply Pk.t)); exact rfl; exact rfl; exact Nat.le_of_ble_eq_true rfl; exact rfl; (repeat (first | apply rk_nil | (apply rk_skip; exact rfl) | (apply rk_ld; exact rfl; (repeat (first | with_reducible exact Pk.h | with_reducible apply Pk.t)); exact rfl)))) | ((with_reducible apply t_nx F12.k); exact rfl; exact rfl) | with_reducible apply m_seq | (with_reducible apply m_reg mix) | with_reducible apply m_block | ((with_reducible apply m_ct); exact rfl) | ((with_reducible apply m_cf); exact rfl) | ((with_reducible apply m_skn); exact rfl) | ((with_reducible apply m_exn); exact rfl)))
      refine t_cl rfl rfl (hCont ow.tx) (by repeat (first | apply Sx.nil | apply Pk.h | apply Sx.cons | apply Pk.t)) ?_
      rintro _ _ ⟨rfl, rfl⟩
      refine ⟨?_, ?_⟩ <;> (try dsimp only [List.cons_append, List.nil_append])
      · (repeat (first | apply rk_nil | (apply rk_skip; exact rfl) | (apply rk_ld; exact rfl; (repeat (first | with_reducible exact Pk.h | with_reducible apply Pk.t)); exact rfl)))
      (repeat (first | ((with_reducible apply t_run); exact rfl) | ((with_reducible apply t_p); exact rfl; exact rfl) | ((with_reducible apply t_gr); exact rfl) | ((with_reducible apply t_ge); exact rfl) | ((with_reducible apply t_ld); exact rfl; exact rfl; (repeat (first | with_reducible exact Pk.h | with_reducible apply Pk.t)); exact rfl) | ((with_reducible apply t_st); exact rfl; exact rfl; exact rfl; (repeat (first | with_reducible exact Pk.h | with_reducible apply Pk.t)); exact rfl; exact rfl; exact Nat.le_of_ble_eq_true rfl; exact rfl; (repeat (first | apply rk_nil | (apply rk_skip; exact rfl) | (apply rk_ld; exact rfl; (repeat (first | with_reducible exact Pk.h | with_reducible apply Pk.t)); exact rfl)))) | ((with_reducible apply t_nx F12.k); exact rfl; exact rfl) | with_reducible apply m_seq | (with_reducible apply m_reg mix) | with_reducible apply m_block | ((with_reducible apply m_ct); exact rfl) | ((with_reducible apply m_cf); exact rfl) | ((with_reducible apply m_skn); exact rfl) | ((with_reducible apply m_exn); exact rfl)))
      refine m_cond rfl (fun q2 => ?_) (fun q2 => ?_)
      · (repeat (first | ((with_reducible apply t_run); exact rfl) | ((with_reducible apply t_p); exact rfl; exact rfl) | ((with_reducible apply t_gr); exact rfl) | ((with_reducible apply t_ge); exact rfl) | ((with_reducible apply t_ld); exact rfl; exact rfl; (repeat (first | with_reducible exact Pk.h | with_reducible apply Pk.t)); exact rfl) | ((with_reducible apply t_st); exact rfl; exact rfl; exact rfl; (repeat (first | with_reducible exact Pk.h | with_reducible apply Pk.t)); exact rfl; exact rfl; exact Nat.le_of_ble_eq_true rfl; exact rfl; (repeat (first | apply rk_nil | (apply rk_skip; exact rfl) | (apply rk_ld; exact rfl; (repeat (first | with_reducible exact Pk.h | with_reducible apply Pk.t)); exact rfl)))) | ((with_reducible apply t_nx F12.k); exact rfl; exact rfl) | with_reducible apply m_seq | (with_reducible apply m_reg mix) | with_reducible apply m_block | ((with_reducible apply m_ct); exact rfl) | ((with_reducible apply m_cf); exact rfl) | ((with_reducible apply m_skn); exact rfl) | ((with_reducible apply m_exn); exact rfl)))
        dsimp only at ho
        rw [q1, q2] at ho
        simp only [Bool.and_self] at ho
        rw [← ho]
        apply m_ret
        · rfl
        · (repeat (first | apply rs_nil | (apply rs_tmp; exact rfl) | (apply rs_cell; exact rfl; (repeat (first | with_reducible exact Pk.h | with_reducible apply Pk.t)); exact rfl)))
        · exact ⟨rfl, rfl⟩
        · exact (by repeat (first | apply Sx.nil | apply Pk.h | apply Sx.cons | apply Pk.t))
      · (repeat (first | ((with_reducible apply t_run); exact rfl) | ((with_reducible apply t_p); exact rfl; exact rfl) | ((with_reducible apply t_gr); exact rfl) | ((with_reducible apply t_ge); exact rfl) | ((with_reducible apply t_ld); exact rfl; exact rfl; (repeat (first | with_reducible exact Pk.h | with_reducible apply Pk.t)); exact rfl) | ((with_reducible apply t_st); exact rfl; exact rfl; exact rfl; (repeat (first | with_reducible exact Pk.h | with_reducible apply Pk.t)); exact rfl; exact rfl; exact Nat.le_of_ble_eq_true rfl; exact rfl; (repeat (first | apply rk_nil | (apply rk_skip; exact rfl) | (apply rk_ld; exact rfl; (repeat (first | with_reducible exact Pk.h | with_reducible apply Pk.t)); exact rfl)))) | ((with_reducible apply t_nx F12.k); exact rfl; exact rfl) | with_reducible apply m_seq | (with_reducible apply m_reg mix) | with_reducible apply m_block | ((with_reducible apply m_ct); exact rfl) | ((with_reducible apply m_cf); exact rfl) | ((with_reducible apply m_skn); exact rfl) | ((with_reducible apply m_exn); exact rfl)))
        dsimp only at ho
        rw [q1, q2] at ho
        simp only [Bool.and_false] at ho
        refine t_meet rfl (i + 1) ⟨⟨by omega, ho⟩, by omega⟩ [27, 0, 8, 10, 4, 25, 26] ?_ (by repeat (first | apply Sx.nil | apply Pk.h | apply Sx.cons | apply Pk.t))
        rw [wrap_nat (by omega)]
        rfl
    · (repeat (first | ((with_reducible apply t_run); exact rfl) | ((with_reducible apply t_p); exact rfl; exact rfl) | ((with_reducible apply t_gr); exact rfl) | ((with_reducible apply t_ge); exact rfl) | ((with_reducible apply t_ld); exact rfl; exact rfl; (repeat (first | with_reducible exact Pk.h | with_reducible apply Pk.t)); exact rfl) | ((with_reducible apply t_st); exact rfl; exact rfl; exact rfl; (repeat (first | with_reducible exact Pk.h | with_reducible apply Pk.t)); exact rfl; exact rfl; exact Nat.le_of_ble_eq_true rfl; exact rfl; (repeat (first | apply rk_nil | (apply rk_skip; exact rfl) | (apply rk_ld; exact rfl; (repeat (first | with_reducible exact Pk.h | with_reducible apply Pk.t)); exact rfl)))) | ((with_reducible apply t_nx F12.k); exact rfl; exact rfl) | with_reducible apply m_seq | (with_reducible apply m_reg mix) | with_reducible apply m_block | ((with_reducible apply m_ct); exact rfl) | ((with_reducible apply m_cf); exact rfl) | ((with_reducible apply m_skn); exact rfl) | ((with_reducible apply m_exn); exact rfl)))
      dsimp only at ho
      rw [q1] at ho
      simp only [Bool.false_and] at ho
      refine t_meet rfl (i + 1) ⟨⟨by omega, ho⟩, by omega⟩ [27, 0, 8, 10, 4, 25, 26] ?_ (by repeat (first | apply Sx.nil | apply Pk.h | apply Sx.cons | apply Pk.t))
      rw [wrap_nat (by omega)]
      rfl
  · have hi' : i = ks.length := by have := of_decide_eq_false q; omega
    (repeat (first | ((with_reducible apply t_run); exact rfl) | ((with_reducible apply t_p); exact rfl; exact rfl) | ((with_reducible apply t_gr); exact rfl) | ((with_reducible apply t_ge); exact rfl) | ((with_reducible apply t_ld); exact rfl; exact rfl; (repeat (first | with_reducible exact Pk.h | with_reducible apply Pk.t)); exact rfl) | ((with_reducible apply t_st); exact rfl; exact rfl; exact rfl; (repeat (first | with_reducible exact Pk.h | with_reducible apply Pk.t)); exact rfl; exact rfl; exact Nat.le_of_ble_eq_true rfl; exact rfl; (repeat (first | apply rk_nil | (apply rk_skip; exact rfl) | (apply rk_ld; exact rfl; (repeat (first | with_reducible exact Pk.h | with_reducible apply Pk.t)); exact rfl)))) | ((with_reducible apply t_nx F12.k); exact rfl; exact rfl) | with_reducible apply m_seq | (with_reducible apply m_reg mix) | with_reducible apply m_block | ((with_reducible apply m_ct); exact rfl) | ((with_reducible apply m_cf); exact rfl) | ((with_reducible apply m_skn); exact rfl) | ((with_reducible apply m_exn); exact rfl)))
    subst hi'
    rw [List.drop_length] at ho
    rw [← ho]
    apply m_ret
    · rfl
    · (repeat (first | apply rs_nil | (apply rs_tmp; exact rfl) | (apply rs_cell; exact rfl; (repeat (first | with_reducible exact Pk.h | with_reducible apply Pk.t)); exact rfl)))
    · exact ⟨rfl, rfl⟩
    · exact (by repeat (first | apply Sx.nil | apply Pk.h | apply Sx.cons | apply Pk.t))
end Go.Proofs.Ythcbefkgfhokoaa

/- No table. -/
namespace Go.Proofs.Ythcbefkgfhokoaa
open Go Go.Dv
set_option maxRecDepth 100000
attribute [local irreducible] HTh HM En Fsp TrA Cl MpA OwS RdS MpO TabA HsA

theorem Nil_of (key : ByteArray) : Fsp Try.prog 17 [.pointer none, .string key] [] fun u aa' => u = .tuple #[zIn.V, .bool false] ∧ aa' = [] := by
  refine spec_of F17.ok rfl fun gl X => ?_
  dsimp only [List.cons_append, List.nil_append]
  (repeat (first | ((with_reducible apply t_run); exact rfl) | ((with_reducible apply t_p); exact rfl; exact rfl) | ((with_reducible apply t_gr); exact rfl) | ((with_reducible apply t_ge); exact rfl) | ((with_reducible apply t_ld); exact rfl; exact rfl; (repeat (first | with_reducible exact Pk.h | with_reducible apply Pk.t)); exact rfl) | ((with_reducible apply t_st); exact rfl; exact rfl; exact rfl; (repeat (first | with_reducible exact Pk.h | with_reducible apply Pk.t)); exact rfl; exact rfl; exact Nat.le_of_ble_eq_true rfl; exact rfl; (repeat (first | apply rk_nil | (apply rk_skip; exact rfl) | (apply rk_ld; exact rfl; (repeat (first | with_reducible exact Pk.h | with_reducible apply Pk.t)); exact rfl)))) | ((with_reducible apply t_nx F17.k); exact rfl; exact rfl) | with_reducible apply m_seq | (with_reducible apply m_reg mix) | with_reducible apply m_block | ((with_reducible apply m_ct); exact rfl) | ((with_reducible apply m_cf); exact rfl) | ((with_reducible apply m_skn); exact rfl) | ((with_reducible apply m_exn); exact rfl)))
  refine t_al rfl fun b4 => ⟨(by (repeat (first | apply rk_nil | (apply rk_skip; exact rfl) | (apply rk_ld; exact rfl; (repeat (first | with_reducible exact Pk.h | with_reducible apply Pk.t)); exact rfl)))), ?_⟩
  (repeat (first | ((with_reducible apply t_run); exact rfl) | ((with_reducible apply t_p); exact rfl; exact rfl) | ((with_reducible apply t_gr); exact rfl) | ((with_reducible apply t_ge); exact rfl) | ((with_reducible apply t_ld); exact rfl; exact rfl; (repeat (first | with_reducible exact Pk.h | with_reducible apply Pk.t)); exact rfl) | ((with_reducible apply t_st); exact rfl; exact rfl; exact rfl; (repeat (first | with_reducible exact Pk.h | with_reducible apply Pk.t)); exact rfl; exact rfl; exact Nat.le_of_ble_eq_true rfl; exact rfl; (repeat (first | apply rk_nil | (apply rk_skip; exact rfl) | (apply rk_ld; exact rfl; (repeat (first | with_reducible exact Pk.h | with_reducible apply Pk.t)); exact rfl)))) | ((with_reducible apply t_nx F17.k); exact rfl; exact rfl) | with_reducible apply m_seq | (with_reducible apply m_reg mix) | with_reducible apply m_block | ((with_reducible apply m_ct); exact rfl) | ((with_reducible apply m_cf); exact rfl) | ((with_reducible apply m_skn); exact rfl) | ((with_reducible apply m_exn); exact rfl)))
  apply m_ret
  · rfl
  · (repeat (first | apply rs_nil | (apply rs_tmp; exact rfl) | (apply rs_cell; exact rfl; (repeat (first | with_reducible exact Pk.h | with_reducible apply Pk.t)); exact rfl)))
  · exact ⟨rfl, rfl⟩
  · exact (by repeat (first | apply Sx.nil | apply Pk.h | apply Sx.cons | apply Pk.t))
theorem Nil_by (tx : Tx) : Fsp Try.prog 13 [.pointer none, tx.V] [] fun u aa' => u = .slice none 0 0 ∧ aa' = [] := by
  obtain ⟨c, n⟩ := tx
  refine spec_of F13.ok rfl fun gl X => ?_
  dsimp only [List.cons_append, List.nil_append]
  simp only [Tx.V]
  (repeat (first | ((with_reducible apply t_run); exact rfl) | ((with_reducible apply t_p); exact rfl; exact rfl) | ((with_reducible apply t_gr); exact rfl) | ((with_reducible apply t_ge); exact rfl) | ((with_reducible apply t_ld); exact rfl; exact rfl; (repeat (first | with_reducible exact Pk.h | with_reducible apply Pk.t)); exact rfl) | ((with_reducible apply t_st); exact rfl; exact rfl; exact rfl; (repeat (first | with_reducible exact Pk.h | with_reducible apply Pk.t)); exact rfl; exact rfl; exact Nat.le_of_ble_eq_true rfl; exact rfl; (repeat (first | apply rk_nil | (apply rk_skip; exact rfl) | (apply rk_ld; exact rfl; (repeat (first | with_reducible exact Pk.h | with_reducible apply Pk.t)); exact rfl)))) | ((with_reducible apply t_nx F13.k); exact rfl; exact rfl) | with_reducible apply m_seq | (with_reducible apply m_reg mix) | with_reducible apply m_block | ((with_reducible apply m_ct); exact rfl) | ((with_reducible apply m_cf); exact rfl) | ((with_reducible apply m_skn); exact rfl) | ((with_reducible apply m_exn); exact rfl)))
  refine t_bx rfl rfl rfl fun b3 => ⟨(by (repeat (first | apply rk_nil | (apply rk_skip; exact rfl) | (apply rk_ld; exact rfl; (repeat (first | with_reducible exact Pk.h | with_reducible apply Pk.t)); exact rfl)))), ?_⟩
  try dsimp only [List.cons_append, List.nil_append]
  (repeat (first | ((with_reducible apply t_run); exact rfl) | ((with_reducible apply t_p); exact rfl; exact rfl) | ((with_reducible apply t_gr); exact rfl) | ((with_reducible apply t_ge); exact rfl) | ((with_reducible apply t_ld); exact rfl; exact rfl; (repeat (first | with_reducible exact Pk.h | with_reducible apply Pk.t)); exact rfl) | ((with_reducible apply t_st); exact rfl; exact rfl; exact rfl; (repeat (first | with_reducible exact Pk.h | with_reducible apply Pk.t)); exact rfl; exact rfl; exact Nat.le_of_ble_eq_true rfl; exact rfl; (repeat (first | apply rk_nil | (apply rk_skip; exact rfl) | (apply rk_ld; exact rfl; (repeat (first | with_reducible exact Pk.h | with_reducible apply Pk.t)); exact rfl)))) | ((with_reducible apply t_nx F13.k); exact rfl; exact rfl) | with_reducible apply m_seq | (with_reducible apply m_reg mix) | with_reducible apply m_block | ((with_reducible apply m_ct); exact rfl) | ((with_reducible apply m_cf); exact rfl) | ((with_reducible apply m_skn); exact rfl) | ((with_reducible apply m_exn); exact rfl)))
  apply m_ret
  · rfl
  · (repeat (first | apply rs_nil | (apply rs_tmp; exact rfl) | (apply rs_cell; exact rfl; (repeat (first | with_reducible exact Pk.h | with_reducible apply Pk.t)); exact rfl)))
  · exact ⟨rfl, rfl⟩
  · exact (by repeat (first | apply Sx.nil | apply Pk.h | apply Sx.cons | apply Pk.t))
theorem Nil_all : Fsp Try.prog 11 [.pointer none] [] fun u aa' => u = .slice none 0 0 ∧ aa' = [] := by
  refine spec_of F11.ok rfl fun gl X => ?_
  dsimp only [List.cons_append, List.nil_append]
  (repeat (first | ((with_reducible apply t_run); exact rfl) | ((with_reducible apply t_p); exact rfl; exact rfl) | ((with_reducible apply t_gr); exact rfl) | ((with_reducible apply t_ge); exact rfl) | ((with_reducible apply t_ld); exact rfl; exact rfl; (repeat (first | with_reducible exact Pk.h | with_reducible apply Pk.t)); exact rfl) | ((with_reducible apply t_st); exact rfl; exact rfl; exact rfl; (repeat (first | with_reducible exact Pk.h | with_reducible apply Pk.t)); exact rfl; exact rfl; exact Nat.le_of_ble_eq_true rfl; exact rfl; (repeat (first | apply rk_nil | (apply rk_skip; exact rfl) | (apply rk_ld; exact rfl; (repeat (first | with_reducible exact Pk.h | with_reducible apply Pk.t)); exact rfl)))) | ((with_reducible apply t_nx F11.k); exact rfl; exact rfl) | with_reducible apply m_seq | (with_reducible apply m_reg mix) | with_reducible apply m_block | ((with_reducible apply m_ct); exact rfl) | ((with_reducible apply m_cf); exact rfl) | ((with_reducible apply m_skn); exact rfl) | ((with_reducible apply m_exn); exact rfl)))
  apply m_ret
  · rfl
  · (repeat (first | apply rs_nil | (apply rs_tmp; exact rfl) | (apply rs_cell; exact rfl; (repeat (first | with_reducible exact Pk.h | with_reducible apply Pk.t)); exact rfl)))
  · exact ⟨rfl, rfl⟩
  · exact (by repeat (first | apply Sx.nil | apply Pk.h | apply Sx.cons | apply Pk.t))
theorem Nil_raise (tx : Tx) (s : Sm) : Fsp Try.prog 16 [.pointer none, tx.V, s.V] [] fun u aa' => u = .bool false ∧ aa' = [] := by
  obtain ⟨c, n⟩ := tx
  obtain ⟨p, l⟩ := s
  refine spec_of F16.ok rfl fun gl X => ?_
  dsimp only [List.cons_append, List.nil_append]
  simp only [Tx.V, Sm.V]
  (repeat (first | ((with_reducible apply t_run); exact rfl) | ((with_reducible apply t_p); exact rfl; exact rfl) | ((with_reducible apply t_gr); exact rfl) | ((with_reducible apply t_ge); exact rfl) | ((with_reducible apply t_ld); exact rfl; exact rfl; (repeat (first | with_reducible exact Pk.h | with_reducible apply Pk.t)); exact rfl) | ((with_reducible apply t_st); exact rfl; exact rfl; exact rfl; (repeat (first | with_reducible exact Pk.h | with_reducible apply Pk.t)); exact rfl; exact rfl; exact Nat.le_of_ble_eq_true rfl; exact rfl; (repeat (first | apply rk_nil | (apply rk_skip; exact rfl) | (apply rk_ld; exact rfl; (repeat (first | with_reducible exact Pk.h | with_reducible apply Pk.t)); exact rfl)))) | ((with_reducible apply t_nx F16.k); exact rfl; exact rfl) | with_reducible apply m_seq | (with_reducible apply m_reg mix) | with_reducible apply m_block | ((with_reducible apply m_ct); exact rfl) | ((with_reducible apply m_cf); exact rfl) | ((with_reducible apply m_skn); exact rfl) | ((with_reducible apply m_exn); exact rfl)))
  refine t_bx rfl rfl rfl fun b4 => ⟨(by (repeat (first | apply rk_nil | (apply rk_skip; exact rfl) | (apply rk_ld; exact rfl; (repeat (first | with_reducible exact Pk.h | with_reducible apply Pk.t)); exact rfl)))), ?_⟩
  try dsimp only [List.cons_append, List.nil_append]
  (repeat (first | ((with_reducible apply t_run); exact rfl) | ((with_reducible apply t_p); exact rfl; exact rfl) | ((with_reducible apply t_gr); exact rfl) | ((with_reducible apply t_ge); exact rfl) | ((with_reducible apply t_ld); exact rfl; exact rfl; (repeat (first | with_reducible exact Pk.h | with_reducible apply Pk.t)); exact rfl) | ((with_reducible apply t_st); exact rfl; exact rfl; exact rfl; (repeat (first | with_reducible exact Pk.h | with_reducible apply Pk.t)); exact rfl; exact rfl; exact Nat.le_of_ble_eq_true rfl; exact rfl; (repeat (first | apply rk_nil | (apply rk_skip; exact rfl) | (apply rk_ld; exact rfl; (repeat (first | with_reducible exact Pk.h | with_reducible apply Pk.t)); exact rfl)))) | ((with_reducible apply t_nx F16.k); exact rfl; exact rfl) | with_reducible apply m_seq | (with_reducible apply m_reg mix) | with_reducible apply m_block | ((with_reducible apply m_ct); exact rfl) | ((with_reducible apply m_cf); exact rfl) | ((with_reducible apply m_skn); exact rfl) | ((with_reducible apply m_exn); exact rfl)))
  refine t_bx rfl rfl rfl fun b5 => ⟨(by (repeat (first | apply rk_nil | (apply rk_skip; exact rfl) | (apply rk_ld; exact rfl; (repeat (first | with_reducible exact Pk.h | with_reducible apply Pk.t)); exact rfl)))), ?_⟩
  try dsimp only [List.cons_append, List.nil_append]
  (repeat (first | ((with_reducible apply t_run); exact rfl) | ((with_reducible apply t_p); exact rfl; exact rfl) | ((with_reducible apply t_gr); exact rfl) | ((with_reducible apply t_ge); exact rfl) | ((with_reducible apply t_ld); exact rfl; exact rfl; (repeat (first | with_reducible exact Pk.h | with_reducible apply Pk.t)); exact rfl) | ((with_reducible apply t_st); exact rfl; exact rfl; exact rfl; (repeat (first | with_reducible exact Pk.h | with_reducible apply Pk.t)); exact rfl; exact rfl; exact Nat.le_of_ble_eq_true rfl; exact rfl; (repeat (first | apply rk_nil | (apply rk_skip; exact rfl) | (apply rk_ld; exact rfl; (repeat (first | with_reducible exact Pk.h | with_reducible apply Pk.t)); exact rfl)))) | ((with_reducible apply t_nx F16.k); exact rfl; exact rfl) | with_reducible apply m_seq | (with_reducible apply m_reg mix) | with_reducible apply m_block | ((with_reducible apply m_ct); exact rfl) | ((with_reducible apply m_cf); exact rfl) | ((with_reducible apply m_skn); exact rfl) | ((with_reducible apply m_exn); exact rfl)))
  apply m_ret
  · rfl
  · (repeat (first | apply rs_nil | (apply rs_tmp; exact rfl) | (apply rs_cell; exact rfl; (repeat (first | with_reducible exact Pk.h | with_reducible apply Pk.t)); exact rfl)))
  · exact ⟨rfl, rfl⟩
  · exact (by repeat (first | apply Sx.nil | apply Pk.h | apply Sx.cons | apply Pk.t))
theorem Nil_first (f o : ByteArray) (s : Sm) (bv : Value) : Fsp Try.prog 12 [.pointer none, .string f, .string o, s.V, bv] [] fun u aa' => u = .tuple #[zIn.V, .bool false] ∧ aa' = [] := by
  obtain ⟨p, l⟩ := s
  refine spec_of F12.ok rfl fun gl X => ?_
  dsimp only [List.cons_append, List.nil_append]
  simp only [Sm.V]
  (repeat (first | ((with_reducible apply t_run); exact rfl) | ((with_reducible apply t_p); exact rfl; exact rfl) | ((with_reducible apply t_gr); exact rfl) | ((with_reducible apply t_ge); exact rfl) | ((with_reducible apply t_ld); exact rfl; exact rfl; (repeat (first | with_reducible exact Pk.h | with_reducible apply Pk.t)); exact rfl) | ((with_reducible apply t_st); exact rfl; exact rfl; exact rfl; (repeat (first | with_reducible exact Pk.h | with_reducible apply Pk.t)); exact rfl; exact rfl; exact Nat.le_of_ble_eq_true rfl; exact rfl; (repeat (first | apply rk_nil | (apply rk_skip; exact rfl) | (apply rk_ld; exact rfl; (repeat (first | with_reducible exact Pk.h | with_reducible apply Pk.t)); exact rfl)))) | ((with_reducible apply t_nx F12.k); exact rfl; exact rfl) | with_reducible apply m_seq | (with_reducible apply m_reg mix) | with_reducible apply m_block | ((with_reducible apply m_ct); exact rfl) | ((with_reducible apply m_cf); exact rfl) | ((with_reducible apply m_skn); exact rfl) | ((with_reducible apply m_exn); exact rfl)))
  refine t_bx rfl rfl rfl fun b8 => ⟨(by (repeat (first | apply rk_nil | (apply rk_skip; exact rfl) | (apply rk_ld; exact rfl; (repeat (first | with_reducible exact Pk.h | with_reducible apply Pk.t)); exact rfl)))), ?_⟩
  try dsimp only [List.cons_append, List.nil_append]
  (repeat (first | ((with_reducible apply t_run); exact rfl) | ((with_reducible apply t_p); exact rfl; exact rfl) | ((with_reducible apply t_gr); exact rfl) | ((with_reducible apply t_ge); exact rfl) | ((with_reducible apply t_ld); exact rfl; exact rfl; (repeat (first | with_reducible exact Pk.h | with_reducible apply Pk.t)); exact rfl) | ((with_reducible apply t_st); exact rfl; exact rfl; exact rfl; (repeat (first | with_reducible exact Pk.h | with_reducible apply Pk.t)); exact rfl; exact rfl; exact Nat.le_of_ble_eq_true rfl; exact rfl; (repeat (first | apply rk_nil | (apply rk_skip; exact rfl) | (apply rk_ld; exact rfl; (repeat (first | with_reducible exact Pk.h | with_reducible apply Pk.t)); exact rfl)))) | ((with_reducible apply t_nx F12.k); exact rfl; exact rfl) | with_reducible apply m_seq | (with_reducible apply m_reg mix) | with_reducible apply m_block | ((with_reducible apply m_ct); exact rfl) | ((with_reducible apply m_cf); exact rfl) | ((with_reducible apply m_skn); exact rfl) | ((with_reducible apply m_exn); exact rfl)))
  refine t_al rfl fun b10 => ⟨(by (repeat (first | apply rk_nil | (apply rk_skip; exact rfl) | (apply rk_ld; exact rfl; (repeat (first | with_reducible exact Pk.h | with_reducible apply Pk.t)); exact rfl)))), ?_⟩
  (repeat (first | ((with_reducible apply t_run); exact rfl) | ((with_reducible apply t_p); exact rfl; exact rfl) | ((with_reducible apply t_gr); exact rfl) | ((with_reducible apply t_ge); exact rfl) | ((with_reducible apply t_ld); exact rfl; exact rfl; (repeat (first | with_reducible exact Pk.h | with_reducible apply Pk.t)); exact rfl) | ((with_reducible apply t_st); exact rfl; exact rfl; exact rfl; (repeat (first | with_reducible exact Pk.h | with_reducible apply Pk.t)); exact rfl; exact rfl; exact Nat.le_of_ble_eq_true rfl; exact rfl; (repeat (first | apply rk_nil | (apply rk_skip; exact rfl) | (apply rk_ld; exact rfl; (repeat (first | with_reducible exact Pk.h | with_reducible apply Pk.t)); exact rfl)))) | ((with_reducible apply t_nx F12.k); exact rfl; exact rfl) | with_reducible apply m_seq | (with_reducible apply m_reg mix) | with_reducible apply m_block | ((with_reducible apply m_ct); exact rfl) | ((with_reducible apply m_cf); exact rfl) | ((with_reducible apply m_skn); exact rfl) | ((with_reducible apply m_exn); exact rfl)))
  apply m_ret
  · rfl
  · (repeat (first | apply rs_nil | (apply rs_tmp; exact rfl) | (apply rs_cell; exact rfl; (repeat (first | with_reducible exact Pk.h | with_reducible apply Pk.t)); exact rfl)))
  · exact ⟨rfl, rfl⟩
  · exact (by repeat (first | apply Sx.nil | apply Pk.h | apply Sx.cons | apply Pk.t))
theorem Nil_lay (tx : Tx) (s m : Sm) (pr wv : Value) : Fsp Try.prog 10 [.pointer none, tx.V, s.V, m.V, pr, wv] [] fun u aa' => u = .int .i64 1 ∧ aa' = [] := by
  obtain ⟨c, n⟩ := tx
  obtain ⟨p, l⟩ := s
  obtain ⟨p', l'⟩ := m
  refine spec_of F10.ok rfl fun gl X => ?_
  dsimp only [List.cons_append, List.nil_append]
  simp only [Tx.V, Sm.V]
  (repeat (first | ((with_reducible apply t_run); exact rfl) | ((with_reducible apply t_p); exact rfl; exact rfl) | ((with_reducible apply t_gr); exact rfl) | ((with_reducible apply t_ge); exact rfl) | ((with_reducible apply t_ld); exact rfl; exact rfl; (repeat (first | with_reducible exact Pk.h | with_reducible apply Pk.t)); exact rfl) | ((with_reducible apply t_st); exact rfl; exact rfl; exact rfl; (repeat (first | with_reducible exact Pk.h | with_reducible apply Pk.t)); exact rfl; exact rfl; exact Nat.le_of_ble_eq_true rfl; exact rfl; (repeat (first | apply rk_nil | (apply rk_skip; exact rfl) | (apply rk_ld; exact rfl; (repeat (first | with_reducible exact Pk.h | with_reducible apply Pk.t)); exact rfl)))) | ((with_reducible apply t_nx F10.k); exact rfl; exact rfl) | with_reducible apply m_seq | (with_reducible apply m_reg mix) | with_reducible apply m_block | ((with_reducible apply m_ct); exact rfl) | ((with_reducible apply m_cf); exact rfl) | ((with_reducible apply m_skn); exact rfl) | ((with_reducible apply m_exn); exact rfl)))
  refine t_bx rfl rfl rfl fun b6 => ⟨(by (repeat (first | apply rk_nil | (apply rk_skip; exact rfl) | (apply rk_ld; exact rfl; (repeat (first | with_reducible exact Pk.h | with_reducible apply Pk.t)); exact rfl)))), ?_⟩
  try dsimp only [List.cons_append, List.nil_append]
  (repeat (first | ((with_reducible apply t_run); exact rfl) | ((with_reducible apply t_p); exact rfl; exact rfl) | ((with_reducible apply t_gr); exact rfl) | ((with_reducible apply t_ge); exact rfl) | ((with_reducible apply t_ld); exact rfl; exact rfl; (repeat (first | with_reducible exact Pk.h | with_reducible apply Pk.t)); exact rfl) | ((with_reducible apply t_st); exact rfl; exact rfl; exact rfl; (repeat (first | with_reducible exact Pk.h | with_reducible apply Pk.t)); exact rfl; exact rfl; exact Nat.le_of_ble_eq_true rfl; exact rfl; (repeat (first | apply rk_nil | (apply rk_skip; exact rfl) | (apply rk_ld; exact rfl; (repeat (first | with_reducible exact Pk.h | with_reducible apply Pk.t)); exact rfl)))) | ((with_reducible apply t_nx F10.k); exact rfl; exact rfl) | with_reducible apply m_seq | (with_reducible apply m_reg mix) | with_reducible apply m_block | ((with_reducible apply m_ct); exact rfl) | ((with_reducible apply m_cf); exact rfl) | ((with_reducible apply m_skn); exact rfl) | ((with_reducible apply m_exn); exact rfl)))
  refine t_bx rfl rfl rfl fun b7 => ⟨(by (repeat (first | apply rk_nil | (apply rk_skip; exact rfl) | (apply rk_ld; exact rfl; (repeat (first | with_reducible exact Pk.h | with_reducible apply Pk.t)); exact rfl)))), ?_⟩
  try dsimp only [List.cons_append, List.nil_append]
  (repeat (first | ((with_reducible apply t_run); exact rfl) | ((with_reducible apply t_p); exact rfl; exact rfl) | ((with_reducible apply t_gr); exact rfl) | ((with_reducible apply t_ge); exact rfl) | ((with_reducible apply t_ld); exact rfl; exact rfl; (repeat (first | with_reducible exact Pk.h | with_reducible apply Pk.t)); exact rfl) | ((with_reducible apply t_st); exact rfl; exact rfl; exact rfl; (repeat (first | with_reducible exact Pk.h | with_reducible apply Pk.t)); exact rfl; exact rfl; exact Nat.le_of_ble_eq_true rfl; exact rfl; (repeat (first | apply rk_nil | (apply rk_skip; exact rfl) | (apply rk_ld; exact rfl; (repeat (first | with_reducible exact Pk.h | with_reducible apply Pk.t)); exact rfl)))) | ((with_reducible apply t_nx F10.k); exact rfl; exact rfl) | with_reducible apply m_seq | (with_reducible apply m_reg mix) | with_reducible apply m_block | ((with_reducible apply m_ct); exact rfl) | ((with_reducible apply m_cf); exact rfl) | ((with_reducible apply m_skn); exact rfl) | ((with_reducible apply m_exn); exact rfl)))
  refine t_bx rfl rfl rfl fun b8 => ⟨(by (repeat (first | apply rk_nil | (apply rk_skip; exact rfl) | (apply rk_ld; exact rfl; (repeat (first | with_reducible exact Pk.h | with_reducible apply Pk.t)); exact rfl)))), ?_⟩
  try dsimp only [List.cons_append, List.nil_append]
  (repeat (first | ((with_reducible apply t_run); exact rfl) | ((with_reducible apply t_p); exact rfl; exact rfl) | ((with_reducible apply t_gr); exact rfl) | ((with_reducible apply t_ge); exact rfl) | ((with_reducible apply t_ld); exact rfl; exact rfl; (repeat (first | with_reducible exact Pk.h | with_reducible apply Pk.t)); exact rfl) | ((with_reducible apply t_st); exact rfl; exact rfl; exact rfl; (repeat (first | with_reducible exact Pk.h | with_reducible apply Pk.t)); exact rfl; exact rfl; exact Nat.le_of_ble_eq_true rfl; exact rfl; (repeat (first | apply rk_nil | (apply rk_skip; exact rfl) | (apply rk_ld; exact rfl; (repeat (first | with_reducible exact Pk.h | with_reducible apply Pk.t)); exact rfl)))) | ((with_reducible apply t_nx F10.k); exact rfl; exact rfl) | with_reducible apply m_seq | (with_reducible apply m_reg mix) | with_reducible apply m_block | ((with_reducible apply m_ct); exact rfl) | ((with_reducible apply m_cf); exact rfl) | ((with_reducible apply m_skn); exact rfl) | ((with_reducible apply m_exn); exact rfl)))
  refine t_bx rfl rfl rfl fun b9 => ⟨(by (repeat (first | apply rk_nil | (apply rk_skip; exact rfl) | (apply rk_ld; exact rfl; (repeat (first | with_reducible exact Pk.h | with_reducible apply Pk.t)); exact rfl)))), ?_⟩
  try dsimp only [List.cons_append, List.nil_append]
  (repeat (first | ((with_reducible apply t_run); exact rfl) | ((with_reducible apply t_p); exact rfl; exact rfl) | ((with_reducible apply t_gr); exact rfl) | ((with_reducible apply t_ge); exact rfl) | ((with_reducible apply t_ld); exact rfl; exact rfl; (repeat (first | with_reducible exact Pk.h | with_reducible apply Pk.t)); exact rfl) | ((with_reducible apply t_st); exact rfl; exact rfl; exact rfl; (repeat (first | with_reducible exact Pk.h | with_reducible apply Pk.t)); exact rfl; exact rfl; exact Nat.le_of_ble_eq_true rfl; exact rfl; (repeat (first | apply rk_nil | (apply rk_skip; exact rfl) | (apply rk_ld; exact rfl; (repeat (first | with_reducible exact Pk.h | with_reducible apply Pk.t)); exact rfl)))) | ((with_reducible apply t_nx F10.k); exact rfl; exact rfl) | with_reducible apply m_seq | (with_reducible apply m_reg mix) | with_reducible apply m_block | ((with_reducible apply m_ct); exact rfl) | ((with_reducible apply m_cf); exact rfl) | ((with_reducible apply m_skn); exact rfl) | ((with_reducible apply m_exn); exact rfl)))
  apply m_ret
  · rfl
  · (repeat (first | apply rs_nil | (apply rs_tmp; exact rfl) | (apply rs_cell; exact rfl; (repeat (first | with_reducible exact Pk.h | with_reducible apply Pk.t)); exact rfl)))
  · exact ⟨rfl, rfl⟩
  · exact (by repeat (first | apply Sx.nil | apply Pk.h | apply Sx.cons | apply Pk.t))
theorem Nil_cut (tx : Tx) : Fsp Try.prog 14 [.pointer none, tx.V] [] fun u aa' => u = .slice none 0 0 ∧ aa' = [] := by
  have hby := Nil_by tx
  obtain ⟨c, n⟩ := tx
  refine spec_of F14.ok rfl fun gl X => ?_
  dsimp only [List.cons_append, List.nil_append]
  simp only [Tx.V] at hby ⊢
  (repeat (first | ((with_reducible apply t_run); exact rfl) | ((with_reducible apply t_p); exact rfl; exact rfl) | ((with_reducible apply t_gr); exact rfl) | ((with_reducible apply t_ge); exact rfl) | ((with_reducible apply t_ld); exact rfl; exact rfl; (repeat (first | with_reducible exact Pk.h | with_reducible apply Pk.t)); exact rfl) | ((with_reducible apply t_st); exact rfl; exact rfl; exact rfl; (repeat (first | with_reducible exact Pk.h | with_reducible apply Pk.t)); exact rfl; exact rfl; exact Nat.le_of_ble_eq_true rfl; exact rfl; (repeat (first | apply rk_nil | (apply rk_skip; exact rfl) | (apply rk_ld; exact rfl; (repeat (first | with_reducible exact Pk.h | with_reducible apply Pk.t)); exact rfl)))) | ((with_reducible apply t_nx F14.k); exact rfl; exact rfl) | with_reducible apply m_seq | (with_reducible apply m_reg mix) | with_reducible apply m_block | ((with_reducible apply m_ct); exact rfl) | ((with_reducible apply m_cf); exact rfl) | ((with_reducible apply m_skn); exact rfl) | ((with_reducible apply m_exn); exact rfl)))
  refine t_bx rfl rfl rfl fun b3 => ⟨(by (repeat (first | apply rk_nil | (apply rk_skip; exact rfl) | (apply rk_ld; exact rfl; (repeat (first | with_reducible exact Pk.h | with_reducible apply Pk.t)); exact rfl)))), ?_⟩
  try dsimp only [List.cons_append, List.nil_append]
  (repeat (first | ((with_reducible apply t_run); exact rfl) | ((with_reducible apply t_p); exact rfl; exact rfl) | ((with_reducible apply t_gr); exact rfl) | ((with_reducible apply t_ge); exact rfl) | ((with_reducible apply t_ld); exact rfl; exact rfl; (repeat (first | with_reducible exact Pk.h | with_reducible apply Pk.t)); exact rfl) | ((with_reducible apply t_st); exact rfl; exact rfl; exact rfl; (repeat (first | with_reducible exact Pk.h | with_reducible apply Pk.t)); exact rfl; exact rfl; exact Nat.le_of_ble_eq_true rfl; exact rfl; (repeat (first | apply rk_nil | (apply rk_skip; exact rfl) | (apply rk_ld; exact rfl; (repeat (first | with_reducible exact Pk.h | with_reducible apply Pk.t)); exact rfl)))) | ((with_reducible apply t_nx F14.k); exact rfl; exact rfl) | with_reducible apply m_seq | (with_reducible apply m_reg mix) | with_reducible apply m_block | ((with_reducible apply m_ct); exact rfl) | ((with_reducible apply m_cf); exact rfl) | ((with_reducible apply m_skn); exact rfl) | ((with_reducible apply m_exn); exact rfl)))
  refine t_cl rfl rfl (hby) (by repeat (first | apply Sx.nil | apply Pk.h | apply Sx.cons | apply Pk.t)) ?_
  rintro _ _ ⟨rfl, rfl⟩
  refine ⟨?_, ?_⟩ <;> (try dsimp only [List.cons_append, List.nil_append])
  · (repeat (first | apply rk_nil | (apply rk_skip; exact rfl) | (apply rk_ld; exact rfl; (repeat (first | with_reducible exact Pk.h | with_reducible apply Pk.t)); exact rfl)))
  (repeat (first | ((with_reducible apply t_run); exact rfl) | ((with_reducible apply t_p); exact rfl; exact rfl) | ((with_reducible apply t_gr); exact rfl) | ((with_reducible apply t_ge); exact rfl) | ((with_reducible apply t_ld); exact rfl; exact rfl; (repeat (first | with_reducible exact Pk.h | with_reducible apply Pk.t)); exact rfl) | ((with_reducible apply t_st); exact rfl; exact rfl; exact rfl; (repeat (first | with_reducible exact Pk.h | with_reducible apply Pk.t)); exact rfl; exact rfl; exact Nat.le_of_ble_eq_true rfl; exact rfl; (repeat (first | apply rk_nil | (apply rk_skip; exact rfl) | (apply rk_ld; exact rfl; (repeat (first | with_reducible exact Pk.h | with_reducible apply Pk.t)); exact rfl)))) | ((with_reducible apply t_nx F14.k); exact rfl; exact rfl) | with_reducible apply m_seq | (with_reducible apply m_reg mix) | with_reducible apply m_block | ((with_reducible apply m_ct); exact rfl) | ((with_reducible apply m_cf); exact rfl) | ((with_reducible apply m_skn); exact rfl) | ((with_reducible apply m_exn); exact rfl)))
  refine m_lp (α := Unit) (fun _ => [(13, .int .i64 0), (0, .pointer none), (3, .pointer (some ⟨b3, 0, none⟩)), (5, .slice none 0 0), (12, .int .i64 0)]) (fun _ => [X]) (fun _ => True) (fun _ => 0) ?_ () trivial [13, 0, 3, 5, 12] rfl (by repeat (first | apply Sx.nil | apply Pk.h | apply Sx.cons | apply Pk.t))
  rintro _ _
  (repeat (first | ((with_reducible apply t_run); exact rfl) | ((with_reducible apply t_p); exact rfl; exact rfl) | ((with_reducible apply t_gr); exact rfl) | ((with_reducible apply t_ge); exact rfl) | ((with_reducible apply t_ld); exact rfl; exact rfl; (repeat (first | with_reducible exact Pk.h | with_reducible apply Pk.t)); exact rfl) | ((with_reducible apply t_st); exact rfl; exact rfl; exact rfl; (repeat (first | with_reducible exact Pk.h | with_reducible apply Pk.t)); exact rfl; exact rfl; exact Nat.le_of_ble_eq_true rfl; exact rfl; (repeat (first | apply rk_nil | (apply rk_skip; exact rfl) | (apply rk_ld; exact rfl; (repeat (first | with_reducible exact Pk.h | with_reducible apply Pk.t)); exact rfl)))) | ((with_reducible apply t_nx F14.k); exact rfl; exact rfl) | with_reducible apply m_seq | (with_reducible apply m_reg mix) | with_reducible apply m_block | ((with_reducible apply m_ct); exact rfl) | ((with_reducible apply m_cf); exact rfl) | ((with_reducible apply m_skn); exact rfl) | ((with_reducible apply m_exn); exact rfl)))
  apply m_ret
  · rfl
  · (repeat (first | apply rs_nil | (apply rs_tmp; exact rfl) | (apply rs_cell; exact rfl; (repeat (first | with_reducible exact Pk.h | with_reducible apply Pk.t)); exact rfl)))
  · exact ⟨rfl, rfl⟩
  · exact (by repeat (first | apply Sx.nil | apply Pk.h | apply Sx.cons | apply Pk.t))
end Go.Proofs.Ythcbefkgfhokoaa

/- The table, plainly: a list of intents in the order of keys. -/
namespace Go.Proofs.Ythcbefkgfhokoaa
open Go Go.Dv
open Classical

def ow (y : In) : Ow := ⟨y.tx.c, y.tx.n, y.w.key, y.w.val, y.w.dead⟩
def kow (y : In) : ByteArray × Ow := (y.w.key, ow y)
def SrtI (L : List In) : Prop := L.Pairwise fun x y => slt x.w.key y.w.key = true
def putL : List In → In → List In
  | [], x => [x]
  | y :: L, x => if slt y.w.key x.w.key then y :: putL L x else x :: y :: L
def byL (L : List In) (tx : Tx) : List In := L.filter fun y => eqT y.tx tx
def cutL (L : List In) (tx : Tx) : List In := L.filter fun y => !eqT y.tx tx
def ofL (L : List In) (k : ByteArray) : Option In := L.find? fun y => decide (y.w.key = k)
def raiseL (L : List In) (tx : Tx) (s : Sm) : List In := L.map fun y => if eqT y.tx tx then { y with min := maxS y.min s } else y
def mkI (tx : Tx) (hd : Hd) (w : Wr) : In := ⟨tx, hd.start, hd.min, hd.prim, w⟩
def layF (tx : Tx) (hd : Hd) (L : List In) (ws : List Wr) : List In := ws.foldl (fun L w => putL L (mkI tx hd w)) L
def Sm.nn (s : Sm) : Prop := 0 ≤ s.p ∧ 0 ≤ s.l

theorem eqT_iff {a b : Tx} : eqT a b = true ↔ a = b := by
  obtain ⟨c, n⟩ := a
  obtain ⟨c', n'⟩ := b
  simp [eqT]
theorem eqT_no {a b : Tx} (h : a ≠ b) : eqT a b = false := by
  cases e : eqT a b with
  | false => rfl
  | true => exact absurd (eqT_iff.1 e) h
theorem eqT_self (a : Tx) : eqT a a = true := eqT_iff.2 rfl

structure Inv (hs : List Hold) (keys : KL) (L : List In) : Prop where
  keys : keys = L.map kow
  srt : SrtI L
  txs : hs.Pairwise fun x y => x.tx ≠ y.tx
  own : ∀ x ∈ hs, inL x = byL L x.tx ∧ x.ws ≠ []
  has : ∀ y ∈ L, ∃ x ∈ hs, x.tx = y.tx
  ok : ∀ y ∈ L, y.tx.ok ∧ y.min.nn
  fit : ∀ x ∈ hs, x.ws.length ≤ 16

section
variable {hs : List Hold} {keys : KL} {L : List In}

theorem inv_nil : Inv [] [] [] := ⟨rfl, List.Pairwise.nil, List.Pairwise.nil, by simp, by simp, by simp, by simp⟩
theorem Inv.tok (I : Inv hs keys L) {x : Hold} (hx : x ∈ hs) : x.tx.ok := by
  obtain ⟨h1, h2⟩ := I.own x hx
  cases hw : x.ws with
  | nil => exact absurd hw h2
  | cons w ws =>
    have h3 : (⟨x.tx, x.hd.start, x.hd.min, x.hd.prim, w⟩ : In) ∈ inL x := by simp [inL, hw]
    rw [h1] at h3
    have := (I.ok _ (List.mem_filter.1 h3).1).1
    exact this
theorem Inv.mnn (I : Inv hs keys L) {x : Hold} (hx : x ∈ hs) : x.hd.min.nn := by
  obtain ⟨h1, h2⟩ := I.own x hx
  cases hw : x.ws with
  | nil => exact absurd hw h2
  | cons w ws =>
    have h3 : (⟨x.tx, x.hd.start, x.hd.min, x.hd.prim, w⟩ : In) ∈ inL x := by simp [inL, hw]
    rw [h1] at h3
    have := (I.ok _ (List.mem_filter.1 h3).1).2
    exact this
theorem Inv.len (I : Inv hs keys L) : keys.length = L.length := by rw [I.keys, List.length_map]

/-! ### whose it is -/
theorem Inv.of1 (I : Inv hs keys L) {y : In} (hy : y ∈ L) : Of1 hs (ow y) y := by
  obtain ⟨x, hx, ht⟩ := I.has y hy
  obtain ⟨h1, _⟩ := I.own x hx
  have h2 : y ∈ inL x := by
    rw [h1]
    exact List.mem_filter.2 ⟨hy, eqT_iff.2 ht.symm⟩
  obtain ⟨w, _, rfl⟩ := List.mem_map.1 h2
  refine ⟨x, hx, ?_, I.tok hx, ?_⟩
  · cases hh : x.tx; rfl
  · show (_ : In) = In.mk ⟨x.tx.c, x.tx.n⟩ _ _ _ ⟨w.key, w.val, w.dead⟩
    rfl
theorem Inv.allR (I : Inv hs keys L) : AllR hs keys L := by
  refine ⟨I.len.symm, fun i h h2 => ?_⟩
  have e : keys[i] = kow L[i] := by
    have := I.keys
    subst this
    rw [List.getElem_map]
  rw [e]
  exact I.of1 (List.getElem_mem h2)

/-! ### Of -/
theorem getK_map (L : List In) (k : ByteArray) : getK (L.map kow) k = (ofL L k).map ow := by
  induction L with
  | nil => rfl
  | cons y L ih =>
    simp only [getK, ofL, List.map_cons, List.find?_cons, kow] at ih ⊢
    by_cases h : y.w.key = k
    · simp [h]
    · simp only [h, decide_false]
      exact ih
theorem Inv.of (I : Inv hs keys L) (k : ByteArray) : getK keys k = (ofL L k).map ow := by rw [I.keys, getK_map]
theorem of_mem {k : ByteArray} {y : In} (h : ofL L k = some y) : y ∈ L ∧ y.w.key = k := by
  have h1 := List.mem_of_find?_eq_some h
  have h2 := List.find?_some h
  exact ⟨h1, by simpa using h2⟩
theorem of_none {k : ByteArray} (h : ofL L k = none) : ∀ y ∈ L, y.w.key ≠ k := by
  intro y hy
  have := List.find?_eq_none.1 h y hy
  simpa using this
theorem of_some {k : ByteArray} {y : In} (hs : SrtI L) (hy : y ∈ L) (hk : y.w.key = k) : ofL L k = some y := by
  induction L with
  | nil => cases hy
  | cons z L ih =>
    obtain ⟨h1, h2⟩ := List.pairwise_cons.1 hs
    rw [ofL, List.find?_cons]
    rcases List.mem_cons.1 hy with rfl | hy
    · simp [hk]
    · have hne : z.w.key ≠ k := fun h => slt_ne (h1 y hy) (h.trans hk.symm)
      simp only [hne, decide_false]
      exact ih h2 hy

/-! ### By -/
theorem Inv.by_none (I : Inv hs keys L) {tx : Tx} (h : ∀ x ∈ hs, x.tx ≠ tx) : byL L tx = [] := by
  rw [byL, List.filter_eq_nil_iff]
  intro y hy he
  obtain ⟨x, hx, ht⟩ := I.has y hy
  exact h x hx (ht.trans (eqT_iff.1 he))
theorem Inv.by_some (I : Inv hs keys L) {x : Hold} (hx : x ∈ hs) : byL L x.tx ≠ [] := by
  obtain ⟨h1, h2⟩ := I.own x hx
  rw [← h1, inL]
  simpa using h2
theorem hold_dec (hs : List Hold) (tx : Tx) : (∀ x ∈ hs, x.tx ≠ tx) ∨ ∃ x ∈ hs, x.tx = tx := by
  by_cases h : ∃ x ∈ hs, x.tx = tx
  · exact .inr h
  · exact .inl fun x hx he => h ⟨x, hx, he⟩

/-! ### Cut -/
theorem cutKs_map : ∀ (l : List In) (L : List In), cutKs (L.map kow) l = (L.filter fun y => !(l.any fun z => decide (z.w.key = y.w.key))).map kow
  | [], L => by
    show L.map kow = _
    rw [List.filter_eq_self.2 (by intro y _; rfl)]
  | z :: l, L => by
    have ih := cutKs_map l (L.filter fun y => !decide (z.w.key = y.w.key))
    have e : cutK (L.map kow) z.w.key = (L.filter fun y => !decide (z.w.key = y.w.key)).map kow := by
      rw [cutK, List.filter_map]
      congr 1
      apply List.filter_congr
      intro y _
      simp [kow, eq_comm]
    show cutKs (cutK (L.map kow) z.w.key) l = _
    rw [e, ih, List.filter_filter]
    congr 1
    apply List.filter_congr
    intro y _
    simp only [List.any_cons, Bool.not_or, Bool.and_comm]
theorem key_inj (hs : SrtI L) {y z : In} (hy : y ∈ L) (hz : z ∈ L) (h : y.w.key = z.w.key) : y = z := by
  have h1 := of_some hs hy rfl
  have h2 := of_some hs hz h.symm
  rw [h1] at h2
  exact Option.some.inj h2
theorem Inv.cut {l1 l2 : List Hold} {x : Hold} (I : Inv (l1 ++ x :: l2) keys L) : Inv (l1 ++ l2) (cutKs keys (inL x)) (cutL L x.tx) := by
  have hsub : (l1 ++ l2).Sublist (l1 ++ x :: l2) := List.Sublist.append_left (List.sublist_cons_self _ _) _
  have hne : ∀ z ∈ l1 ++ l2, z.tx ≠ x.tx := by
    have := I.txs
    rw [List.pairwise_append, List.pairwise_cons] at this
    obtain ⟨h1, ⟨h2, h3⟩, h4⟩ := this
    intro z hz
    rcases List.mem_append.1 hz with hz | hz
    · exact h4 z hz x (by simp)
    · exact fun h => h2 z hz h.symm
  refine ⟨?_, I.srt.sublist List.filter_sublist, I.txs.sublist hsub, ?_, ?_, fun y hy => I.ok y (List.mem_filter.1 hy).1, fun z hz => I.fit z (hsub.subset hz)⟩
  · rw [I.keys, cutKs_map, (I.own x (by simp)).1]
    congr 1
    apply List.filter_congr
    intro y hy
    congr 1
    rw [Bool.eq_iff_iff, List.any_eq_true]
    constructor
    · rintro ⟨z, hz, he⟩
      obtain ⟨hz1, hz2⟩ := List.mem_filter.1 hz
      have := key_inj I.srt hz1 hy (by simpa using he)
      rw [← this]; exact hz2
    · intro h
      exact ⟨y, List.mem_filter.2 ⟨hy, h⟩, by simp⟩
  · intro z hz
    obtain ⟨h1, h2⟩ := I.own z (hsub.subset hz)
    refine ⟨?_, h2⟩
    rw [h1, byL, byL, cutL, List.filter_filter]
    apply List.filter_congr
    intro y _
    cases e : eqT y.tx z.tx with
    | false => rfl
    | true =>
      rw [eqT_iff] at e
      rw [e, eqT_no (hne z hz)]; rfl
  · intro y hy
    obtain ⟨hy1, hy2⟩ := List.mem_filter.1 hy
    obtain ⟨z, hz, he⟩ := I.has y hy1
    refine ⟨z, ?_, he⟩
    rcases List.mem_append.1 hz with hz | hz
    · simp [hz]
    · rcases List.mem_cons.1 hz with rfl | hz
      · rw [he, eqT_self] at hy2; cases hy2
      · simp [hz]
theorem cut_no {tx : Tx} (h : byL L tx = []) : cutL L tx = L := by
  rw [cutL, List.filter_eq_self]
  intro y hy
  cases e : eqT y.tx tx with
  | false => rfl
  | true =>
    have : y ∈ byL L tx := List.mem_filter.2 ⟨hy, e⟩
    rw [h] at this; cases this

/-! ### Raise -/
theorem maxS_nn {s : Sm} (h : s.nn) : maxS ⟨0, 0⟩ s = s := by
  obtain ⟨p, l⟩ := s
  obtain ⟨h1, h2⟩ := h
  dsimp only at h1 h2
  unfold maxS
  split
  · rfl
  · rename_i hn
    have : ¬ (orI [cmpI 0 p, cmpI 0 l] < 0) := by simpa [Sm.lt] using hn
    have hp : p = 0 := by
      rcases Int.lt_or_le 0 p with h | h
      · exfalso; apply this
        simp [orI, cmpI, h]
      · omega
    subst hp
    have hl : l = 0 := by
      rcases Int.lt_or_le 0 l with h | h
      · exfalso; apply this
        simp [orI, cmpI, h]
      · omega
    subst hl
    rfl
theorem raise_key (tx : Tx) (s : Sm) (y : In) : (if eqT y.tx tx then { y with min := maxS y.min s } else y : In).w = y.w ∧ (if eqT y.tx tx then { y with min := maxS y.min s } else y : In).tx = y.tx := by
  split <;> exact ⟨rfl, rfl⟩
theorem maxS_ok {a b : Sm} (ha : a.nn) (hb : b.nn) : (maxS a b).nn := by unfold maxS; split <;> assumption
theorem Inv.raise {l1 l2 : List Hold} {x : Hold} {s : Sm} (hs : s.nn) (I : Inv (l1 ++ x :: l2) keys L) : Inv (l1 ++ x.raise s :: l2) keys (raiseL L x.tx s) := by
  have hne : ∀ z ∈ l1 ++ l2, z.tx ≠ x.tx := by
    have := I.txs
    rw [List.pairwise_append, List.pairwise_cons] at this
    obtain ⟨h1, ⟨h2, h3⟩, h4⟩ := this
    intro z hz
    rcases List.mem_append.1 hz with hz | hz
    · exact h4 z hz x (by simp)
    · exact fun h => h2 z hz h.symm
  have hby : ∀ tx, byL (raiseL L x.tx s) tx = (byL L tx).map fun y => if eqT y.tx x.tx then { y with min := maxS y.min s } else y := by
    intro tx
    rw [byL, raiseL, List.filter_map]
    congr 1
    apply List.filter_congr
    intro y _
    show eqT (if eqT y.tx x.tx then { y with min := maxS y.min s } else y : In).tx tx = _
    rw [(raise_key x.tx s y).2]
  have hmem : ∀ z ∈ l1 ++ x.raise s :: l2, z = x.raise s ∨ (z ∈ l1 ++ l2 ∧ z ∈ l1 ++ x :: l2) := by
    intro z hz
    rcases List.mem_append.1 hz with hz | hz
    · exact .inr ⟨by simp [hz], by simp [hz]⟩
    · rcases List.mem_cons.1 hz with hz | hz
      · exact .inl hz
      · exact .inr ⟨by simp [hz], by simp [hz]⟩
  refine ⟨?_, ?_, ?_, ?_, ?_, ?_, ?_⟩
  · rw [I.keys, raiseL, List.map_map]
    apply List.map_congr_left
    intro y _
    show kow y = kow (if eqT y.tx x.tx then { y with min := maxS y.min s } else y : In)
    obtain ⟨h1, h2⟩ := raise_key x.tx s y
    simp only [kow, ow, h1, h2]
  · rw [SrtI, raiseL, List.pairwise_map]
    refine I.srt.imp ?_
    intro a b hab
    rw [(raise_key x.tx s a).1, (raise_key x.tx s b).1]
    exact hab
  · have h1 := I.txs
    rw [List.pairwise_append, List.pairwise_cons] at h1 ⊢
    obtain ⟨a1, ⟨a2, a3⟩, a4⟩ := h1
    refine ⟨a1, ⟨a2, a3⟩, ?_⟩
    intro a ha b hb
    rcases List.mem_cons.1 hb with rfl | hb
    · exact a4 a ha x (by simp)
    · exact a4 a ha b (by simp [hb])
  · intro z hz
    rcases hmem z hz with rfl | ⟨hz1, hz2⟩
    · obtain ⟨h1, h2⟩ := I.own x (by simp)
      refine ⟨?_, h2⟩
      have hmin := maxS_nn (I.mnn (x := x) (by simp))
      show inL (x.raise s) = byL (raiseL L x.tx s) x.tx
      rw [hby, ← h1, inL, inL, List.map_map]
      apply List.map_congr_left
      intro w _
      show (_ : In) = if eqT x.tx x.tx then _ else _
      rw [eqT_self, if_pos rfl]
      simp only [Hold.raise, hmin]
    · obtain ⟨h1, h2⟩ := I.own z hz2
      refine ⟨?_, h2⟩
      rw [hby, ← h1]
      symm
      rw [List.map_congr_left (g := id), List.map_id]
      intro y hy
      rw [h1] at hy
      have he := eqT_iff.1 (List.mem_filter.1 hy).2
      rw [he, eqT_no (hne z hz1)]; rfl
  · intro y hy
    obtain ⟨y0, hy0, rfl⟩ := List.mem_map.1 hy
    obtain ⟨z, hz, he⟩ := I.has y0 hy0
    rw [(raise_key x.tx s y0).2]
    rcases List.mem_append.1 hz with hz | hz
    · exact ⟨z, by simp [hz], he⟩
    · rcases List.mem_cons.1 hz with rfl | hz
      · exact ⟨z.raise s, by simp, he⟩
      · exact ⟨z, by simp [hz], he⟩
  · intro y hy
    obtain ⟨y0, hy0, rfl⟩ := List.mem_map.1 hy
    obtain ⟨h1, h2⟩ := I.ok y0 hy0
    rw [(raise_key x.tx s y0).2]
    refine ⟨h1, ?_⟩
    split
    · exact maxS_ok h2 hs
    · exact h2
  · intro z hz
    rcases hmem z hz with rfl | ⟨_, hz2⟩
    · exact I.fit x (by simp)
    · exact I.fit z hz2

/-! ### Lay -/
theorem put_perm : ∀ (L : List In) (x : In), (putL L x).Perm (x :: L)
  | [], x => List.Perm.refl _
  | y :: L, x => by
    simp only [putL]
    split
    · exact ((put_perm L x).cons y).trans (List.Perm.swap x y L)
    · exact List.Perm.refl _
theorem put_mem {y x : In} : y ∈ putL L x ↔ y = x ∨ y ∈ L := by rw [(put_perm L x).mem_iff, List.mem_cons]
theorem put_srt : ∀ {L : List In} {x : In}, SrtI L → (∀ y ∈ L, y.w.key ≠ x.w.key) → SrtI (putL L x)
  | [], x, _, _ => by simp [putL, SrtI]
  | y :: L, x, hs, hn => by
    obtain ⟨h1, h2⟩ := List.pairwise_cons.1 hs
    simp only [putL]
    split
    · rename_i hlt
      refine List.pairwise_cons.2 ⟨fun z hz => ?_, put_srt h2 fun z hz => hn z (by simp [hz])⟩
      rcases put_mem.1 hz with rfl | hz
      · exact hlt
      · exact h1 z hz
    · rename_i hlt
      have hxy : slt x.w.key y.w.key = true := by
        rcases slt_tri x.w.key y.w.key with h | h | h
        · exact h
        · exact absurd h.symm (hn y (by simp))
        · exact absurd h hlt
      refine List.pairwise_cons.2 ⟨fun z hz => ?_, hs⟩
      rcases List.mem_cons.1 hz with rfl | hz
      · exact hxy
      · exact slt_trans hxy (h1 z hz)
theorem put_kow : ∀ {L : List In} {x : In}, (∀ y ∈ L, y.w.key ≠ x.w.key) → insK (L.map kow) x.w.key (ow x) = (putL L x).map kow
  | [], x, _ => rfl
  | y :: L, x, hn => by
    have ih := put_kow (L := L) (x := x) fun z hz => hn z (by simp [hz])
    simp only [putL, List.map_cons, insK, kow] at ih ⊢
    by_cases hlt : slt y.w.key x.w.key = true
    · rw [if_neg (by rw [slt_asymm hlt]; simp), if_pos hlt, if_pos hlt, ih]; rfl
    · have hxy : slt x.w.key y.w.key = true := by
        rcases slt_tri x.w.key y.w.key with h | h | h
        · exact h
        · exact absurd h.symm (hn y (by simp))
        · exact absurd h hlt
      rw [if_pos hxy, if_neg hlt]; rfl

def insW (tx : Tx) (keys : KL) (ws : List Wr) : KL := ws.foldl (fun k w => insK k w.key ⟨tx.c, tx.n, w.key, w.val, w.dead⟩) keys
def Dist (ws : List Wr) : Prop := ws.Pairwise fun a b => a.key ≠ b.key
theorem lay_all (tx : Tx) (hd : Hd) : ∀ (ws : List Wr) (L : List In), SrtI L → (∀ w ∈ ws, ∀ y ∈ L, y.w.key ≠ w.key) → Dist ws →
    SrtI (layF tx hd L ws) ∧ insW tx (L.map kow) ws = (layF tx hd L ws).map kow ∧ (layF tx hd L ws).Perm (ws.map (mkI tx hd) ++ L)
  | [], L, hs, _, _ => ⟨hs, rfl, List.Perm.refl _⟩
  | w :: ws, L, hs, hn, hd' => by
    obtain ⟨d1, d2⟩ := List.pairwise_cons.1 hd'
    have hnw : ∀ y ∈ L, y.w.key ≠ (mkI tx hd w).w.key := fun y hy => hn w (by simp) y hy
    have h1 := put_srt hs hnw
    have h2 : ∀ v ∈ ws, ∀ y ∈ putL L (mkI tx hd w), y.w.key ≠ v.key := by
      intro v hv y hy
      rcases put_mem.1 hy with rfl | hy
      · exact d1 v hv
      · exact hn v (by simp [hv]) y hy
    obtain ⟨i1, i2, i3⟩ := lay_all tx hd ws (putL L (mkI tx hd w)) h1 h2 d2
    refine ⟨i1, ?_, ?_⟩
    · rw [← put_kow hnw] at i2
      exact i2
    · refine i3.trans ?_
      rw [List.map_cons, List.cons_append]
      exact ((put_perm L _).append_left _).trans List.perm_middle
theorem dist_srt {ws ws' : List Wr} (hp : ws'.Perm ws) (hd : Dist ws) (hs : ws'.Pairwise fun a b => slt b.key a.key = false) : ws'.Pairwise fun a b => slt a.key b.key = true := by
  have hd2 : ws'.Pairwise (fun a b => a.key ≠ b.key) := (hp.pairwise_iff (R := fun (a b : Wr) => a.key ≠ b.key) (fun {x y} (h : x.key ≠ y.key) => h.symm)).2 hd
  have := hs.and hd2
  refine this.imp ?_
  rintro a b ⟨h1, h2⟩
  rcases slt_tri a.key b.key with h | h | h
  · exact h
  · exact absurd h h2
  · rw [h1] at h; cases h
theorem Inv.lay (I : Inv hs keys L) {tx : Tx} {hd : Hd} {ws ws' : List Wr} {b : Nat} {v : Value} (htx : tx.ok) (hmin : hd.min.nn) (h0 : ws ≠ []) (h16 : ws.length ≤ 16) (hby : byL L tx = []) (hn : ∀ w ∈ ws, ∀ y ∈ L, y.w.key ≠ w.key) (hd' : Dist ws)
    (hp : ws'.Perm ws) (hs' : ws'.Pairwise fun a b => slt b.key a.key = false) : Inv (hs ++ [⟨tx, b, hd, ws', v⟩]) (insW tx keys ws) (layF tx hd L ws) := by
  obtain ⟨h1, h2, h3⟩ := lay_all tx hd ws L I.srt hn hd'
  have hne : ∀ x ∈ hs, x.tx ≠ tx := by
    intro x hx he
    have := I.by_some hx
    rw [he, hby] at this
    exact this rfl
  refine ⟨by rw [I.keys, h2], h1, ?_, ?_, ?_, ?_, ?_⟩
  · rw [List.pairwise_append]
    refine ⟨I.txs, List.pairwise_singleton _ _, ?_⟩
    intro x hx y hy
    simp only [List.mem_singleton] at hy
    subst hy
    exact hne x hx
  · intro x hx
    rcases List.mem_append.1 hx with hx | hx
    · obtain ⟨a1, a2⟩ := I.own x hx
      refine ⟨?_, a2⟩
      have hP : (byL (layF tx hd L ws) x.tx).Perm (byL L x.tx) := by
        refine (h3.filter _).trans ?_
        rw [List.filter_append]
        have : (ws.map (mkI tx hd)).filter (fun y => eqT y.tx x.tx) = [] := by
          rw [List.filter_eq_nil_iff]
          intro y hy he
          obtain ⟨w, _, rfl⟩ := List.mem_map.1 hy
          exact hne x hx (eqT_iff.1 he).symm
        rw [this]
        exact List.Perm.refl _
      rw [a1]
      refine List.Perm.eq_of_pairwise (le := fun (a b : In) => slt a.w.key b.w.key = true) ?_ (I.srt.sublist List.filter_sublist) (h1.sublist List.filter_sublist) hP.symm
      intro a b _ _ hab hba
      rw [slt_asymm hab] at hba; cases hba
    · simp only [List.mem_singleton] at hx
      subst hx
      refine ⟨?_, fun h => h0 (by have h' : ws' = [] := h; subst h'; exact (List.Perm.nil_eq hp).symm)⟩
      have hP : (byL (layF tx hd L ws) tx).Perm (ws.map (mkI tx hd)) := by
        refine (h3.filter _).trans ?_
        rw [List.filter_append]
        have e1 : L.filter (fun y => eqT y.tx tx) = [] := hby
        rw [e1, List.append_nil, List.filter_eq_self.2]
        intro y hy
        obtain ⟨w, _, rfl⟩ := List.mem_map.1 hy
        exact eqT_self tx
      show ws'.map (mkI tx hd) = _
      refine List.Perm.eq_of_pairwise (le := fun (a b : In) => slt a.w.key b.w.key = true) ?_ ?_ (h1.sublist List.filter_sublist) ((hp.map _).trans hP.symm)
      · intro a b _ _ hab hba
        rw [slt_asymm hab] at hba; cases hba
      · rw [List.pairwise_map]
        exact dist_srt hp hd' hs'
  · intro y hy
    rcases List.mem_append.1 (h3.mem_iff.1 hy) with hy | hy
    · obtain ⟨w, _, rfl⟩ := List.mem_map.1 hy
      exact ⟨⟨tx, b, hd, ws', v⟩, by simp, rfl⟩
    · obtain ⟨x, hx, he⟩ := I.has y hy
      exact ⟨x, by simp [hx], he⟩
  · intro y hy
    rcases List.mem_append.1 (h3.mem_iff.1 hy) with hy | hy
    · obtain ⟨w, _, rfl⟩ := List.mem_map.1 hy
      exact ⟨htx, hmin⟩
    · exact I.ok y hy
  · intro x hx
    rcases List.mem_append.1 hx with hx | hx
    · exact I.fit x hx
    · simp only [List.mem_singleton] at hx
      subst hx
      show ws'.length ≤ 16
      rw [hp.length_eq]; exact h16
end
end Go.Proofs.Ythcbefkgfhokoaa

/- The table's contracts over the plain list. -/
namespace Go.Proofs.Ythcbefkgfhokoaa
open Go Go.Dv
open Classical
set_option maxRecDepth 100000

section
variable {P : Program} {f : FuncId} {args : List Value} {pre : List HP} {post post' : Value → List HP → Prop}
theorem sep_head {x y : HP} {l : List HP} {h : PH} (hs : Sep (x :: l) h) (hxy : ∀ h, x h → y h) : Sep (y :: l) h := by
  obtain ⟨h1, h2, d, u, hx, hr⟩ := hs
  exact ⟨h1, h2, d, u, hxy _ hx, hr⟩
theorem fsp_open {α : Type} {x : HP} {φ : α → Prop} {z : α → HP} (ho : ∀ h, x h → ∃ y, φ y ∧ z y h) (S : ∀ y, φ y → Fsp P f args (z y :: pre) post) : Fsp P f args (x :: pre) post := by
  intro gl F w hG hs
  obtain ⟨h1, h2, d, u, hx, hr⟩ := hs
  obtain ⟨y, hy, hz⟩ := ho h1 hx
  exact S y hy gl F w hG ⟨h1, h2, d, u, hz, hr⟩
theorem fsp_post (S : Fsp P f args pre post) (hp : ∀ v aa', post v aa' → ∃ aa'', post' v aa'' ∧ ∀ F h, Sep (aa' ++ [F]) h → Sep (aa'' ++ [F]) h) : Fsp P f args pre post' := by
  intro gl F w hG hs
  refine Calls.mono (S gl F w hG hs) ?_
  rintro x w' ⟨v, rfl, hG', aa', h1, h2⟩
  obtain ⟨aa'', h3, h4⟩ := hp v aa' h1
  exact ⟨v, rfl, hG', aa'', h3, h4 F _ h2⟩
end

def TabL (t : Nat) (L : List In) : HP := fun h => ∃ x : List Hold × KL, Inv x.1 x.2 L ∧ TabA t x.1 x.2 h
section
variable {L : List In} {f : FuncId} {args : List Value} {pre : List HP} {post : Value → List HP → Prop}
theorem fsp_tab {t : Nat} (S : ∀ hs keys, Inv hs keys L → Fsp Try.prog f args (TabA t hs keys :: pre) post) : Fsp Try.prog f args (TabL t L :: pre) post :=
  fsp_open (x := TabL t L) (φ := fun x : List Hold × KL => Inv x.1 x.2 L) (z := fun x => TabA t x.1 x.2) (fun _ h => h) fun x hx => S x.1 x.2 hx
theorem tabL_mk {t : Nat} {hs : List Hold} {keys : KL} (I : Inv hs keys L) : ∀ h, TabA t hs keys h → TabL t L h := fun _ h => ⟨(hs, keys), I, h⟩
end

theorem New_L : Fsp Try.prog 9 [] [] fun u aa' => ∃ t, u = .pointer (some ⟨t, 0, none⟩) ∧ aa' = [TabL t []] := by
  refine fsp_post LNew_spec ?_
  rintro v _ ⟨t, rfl, rfl⟩
  exact ⟨_, ⟨t, rfl, rfl⟩, fun F h hs => sep_head hs (tabL_mk inv_nil)⟩

def ofR : Option In → Value
  | none => .tuple #[zIn.V, .bool false]
  | some y => .tuple #[y.V, .bool true]
theorem Of_L (t : Nat) (L : List In) (k : ByteArray) : Fsp Try.prog 17 [.pointer (some ⟨t, 0, none⟩), .string k] [TabL t L] fun u aa' => u = ofR (ofL L k) ∧ aa' = [TabL t L] := by
  refine fsp_tab fun hs keys I => ?_
  have hg := I.of k
  cases hk : ofL L k with
  | none =>
    rw [hk] at hg
    refine fsp_post (Of_none t hs keys k hg) ?_
    rintro v _ ⟨rfl, rfl⟩
    exact ⟨_, ⟨rfl, rfl⟩, fun F h hs => sep_head hs (tabL_mk I)⟩
  | some y =>
    rw [hk] at hg
    obtain ⟨x, hx, ht, hok, he⟩ := I.of1 (of_mem hk).1
    refine fsp_post (Of_some t hs keys k (ow y) x hg hx ht hok) ?_
    rintro v _ ⟨rfl, rfl⟩
    rw [← he]
    exact ⟨_, ⟨rfl, rfl⟩, fun F h hs => sep_head hs (tabL_mk I)⟩

theorem By_L (t : Nat) (L : List In) (tx : Tx) (hok : tx.ok) : Fsp Try.prog 13 [.pointer (some ⟨t, 0, none⟩), tx.V] [TabL t L] fun u aa' => aa' = [TabL t L, OwS 41 10 u (byL L tx).length (ics (byL L tx)).flatten] := by
  refine fsp_tab fun hs keys I => ?_
  rcases hold_dec hs tx with hn | ⟨x, hx, rfl⟩
  · refine fsp_post (By_none t hs keys tx hok hn) ?_
    rintro v _ ⟨rfl, rfl⟩
    rw [I.by_none hn]
    exact ⟨_, rfl, fun F h hs => sep_head hs (tabL_mk I)⟩
  · obtain ⟨h1, h2⟩ := I.own x hx
    have := I.fit x hx
    refine fsp_post (By_some t hs keys x hx hok (List.length_pos_iff.2 h2) (by omega)) ?_
    rintro v _ rfl
    rw [h1]
    exact ⟨_, rfl, fun F h hs => sep_head hs (tabL_mk I)⟩

theorem Cut_L (t : Nat) (L : List In) (tx : Tx) (hok : tx.ok) : Fsp Try.prog 14 [.pointer (some ⟨t, 0, none⟩), tx.V] [TabL t L] fun u aa' => aa' = [TabL t (cutL L tx), OwS 41 10 u (byL L tx).length (ics (byL L tx)).flatten] := by
  refine fsp_tab fun hs keys I => ?_
  rcases hold_dec hs tx with hn | ⟨x, hx, rfl⟩
  · refine fsp_post (LCut_none t hs keys tx hok hn) ?_
    rintro v _ ⟨rfl, rfl⟩
    rw [cut_no (I.by_none hn), I.by_none hn]
    exact ⟨_, rfl, fun F h hs => sep_head hs (tabL_mk I)⟩
  · obtain ⟨h1, h2⟩ := I.own x hx
    have := I.fit x hx
    obtain ⟨l1, l2, rfl⟩ := List.append_of_mem hx
    have hne : ∀ z ∈ l1 ++ l2, z.tx ≠ x.tx := by
      have := I.txs
      rw [List.pairwise_append, List.pairwise_cons] at this
      obtain ⟨h1, ⟨h2, h3⟩, h4⟩ := this
      intro z hz
      rcases List.mem_append.1 hz with hz | hz
      · exact h4 z hz x (by simp)
      · exact fun h => h2 z hz h.symm
    refine fsp_post (LCut_some t l1 l2 keys x hok hne (List.length_pos_iff.2 h2) (by omega)) ?_
    rintro v _ rfl
    have I2 := I.cut
    rw [h1] at I2 ⊢
    exact ⟨_, rfl, fun F h hs => sep_head hs (tabL_mk I2)⟩

theorem Raise_L (t : Nat) (L : List In) (tx : Tx) (s : Sm) (hok : tx.ok) (hs0 : s.nn) : Fsp Try.prog 16 [.pointer (some ⟨t, 0, none⟩), tx.V, s.V] [TabL t L] fun u aa' =>
    u = .bool (!(byL L tx).isEmpty && s.ok) ∧ aa' = [TabL t (if !(byL L tx).isEmpty && s.ok then raiseL L tx s else L)] := by
  refine fsp_tab fun hs keys I => ?_
  rcases hold_dec hs tx with hn | ⟨x, hx, rfl⟩
  · refine fsp_post (Raise_none t hs keys tx s hok hn) ?_
    rintro v _ ⟨rfl, rfl⟩
    rw [I.by_none hn]
    exact ⟨_, ⟨rfl, rfl⟩, fun F h hs => sep_head hs (tabL_mk I)⟩
  · have h1 := I.by_some hx
    obtain ⟨l1, l2, rfl⟩ := List.append_of_mem hx
    have he : (byL L x.tx).isEmpty = false := by
      cases h : byL L x.tx with
      | nil => exact absurd h h1
      | cons => rfl
    refine fsp_post (Raise_some t l1 l2 keys x s hok) ?_
    rintro v _ ⟨rfl, rfl⟩
    rw [he]
    refine ⟨_, ⟨rfl, rfl⟩, fun F h hs => sep_head hs ?_⟩
    cases hsk : s.ok with
    | true => exact tabL_mk (I.raise hs0)
    | false => exact tabL_mk I

theorem All_L (t : Nat) (L : List In) (hl : L.length ≤ 1073741824) : Fsp Try.prog 11 [.pointer (some ⟨t, 0, none⟩)] [TabL t L] fun u aa' => aa' = [TabL t L, OwS 41 10 u L.length (ics L).flatten] := by
  refine fsp_tab fun hs keys I => ?_
  refine fsp_post (All_spec t hs keys L I.allR (by rw [I.len]; exact hl)) ?_
  rintro v _ rfl
  exact ⟨_, rfl, fun F h hs => sep_head hs (tabL_mk I)⟩

def fstL (L : List In) (f o : ByteArray) (s : Sm) (but : List Tx) : Option In := L.find? fun y => inR f o y.w.key && stands s but y
theorem rng_kow (L : List In) (f o : ByteArray) : rngL f o (L.map kow) = (L.filter fun y => inR f o y.w.key).map fun y => y.w.key := by
  rw [rngL, List.map_map, List.filter_map]
  rfl
theorem First_L (R : HP) (t : Nat) (L : List In) (f o : ByteArray) (s : Sm) (bv : Value) (but : List Tx) (hb : RdS R 2 bv (but.map Tx.cells)) (hbl : but.length < 9223372036854775808) (hl : L.length ≤ 1073741824) :
    Fsp Try.prog 12 [.pointer (some ⟨t, 0, none⟩), .string f, .string o, s.V, bv] [TabL t L, R] fun u aa' => u = ofR (fstL L f o s but) ∧ aa' = [TabL t L, R] := by
  refine fsp_tab fun hs keys I => ?_
  have hg : ∀ k ∈ rngL f o keys, ∃ o', getK keys k = some o' ∧ Of1 hs o' ((ofL L k).getD zIn) := by
    intro k hk
    rw [I.keys, rng_kow] at hk
    obtain ⟨y, hy, rfl⟩ := List.mem_map.1 hk
    have hy' := (List.mem_filter.1 hy).1
    have h1 := of_some I.srt hy' rfl
    refine ⟨ow y, ?_, ?_⟩
    · rw [I.of, h1]; rfl
    · rw [h1]; exact I.of1 hy'
  have hmap : (rngL f o keys).map (fun k => (ofL L k).getD zIn) = L.filter fun y => inR f o y.w.key := by
    rw [I.keys, rng_kow, List.map_map]
    rw [List.map_congr_left (g := id), List.map_id]
    intro y hy
    show (ofL L y.w.key).getD zIn = y
    rw [of_some I.srt (List.mem_filter.1 hy).1 rfl]; rfl
  refine fsp_post (First_spec R t hs keys f o s bv but (fun k => (ofL L k).getD zIn) hb hbl (by rw [I.len]; exact hl) hg) ?_
  rintro v _ ⟨rfl, rfl⟩
  refine ⟨_, ⟨?_, rfl⟩, fun F h hs => sep_head hs (tabL_mk I)⟩
  have e : fstL L f o s but = (L.filter fun y => inR f o y.w.key).find? (stands s but) := by
    rw [List.find?_filter, fstL]
    congr 1
    funext y
    simp
  rw [hmap, e]
  cases (L.filter fun y => inR f o y.w.key).find? (stands s but) <;> rfl
end Go.Proofs.Ythcbefkgfhokoaa

/-
  DERIVED: THE SHELF's CONTRACTS AT THIS DUMP, IN PLAIN WORDS (tools/lay-plain.mjs out of 'YthcbefkgfhokoaaSf.lean', which tools/lay-shelf.mjs wrote): THE SAME DECLARATIONS UNDER THE SAME NAMES: 'import', 'namespace', 'open', 'def', 'theorem' AND NOTHING ELSE: no command of the shelf's: FOR A HAND-IN. Each laying: the table of numbers ('.._ren') and one theorem, a field a fact of the dump's own or the kernel's comparison; each contract: ONE APPLICATION.
-/
namespace Go.Proofs
open Go.Shelf
def Try.sortW_ren : Go.Shelf.Ren := ⟨fun | 6 => 33 | 15 => 50 | 14 => 49 | 28 => 66 | 29 => 67 | 20 => 58 | 21 => 59 | 22 => 60 | 23 => 61 | 24 => 62 | 25 => 63 | 26 => 64 | 27 => 65 | 46 => 72 | 47 => 73 | 48 => 74 | 49 => 75 | 50 => 76 | 57 => 80 | n => n, fun | 22 => 29 | 24 => 39 | 25 => 77 | 3 => 3 | 39 => 96 | 0 => 0 | 53 => 23 | 55 => 26 | 4 => 4 | 46 => 107 | 45 => 106 | 50 => 111 | 5 => 5 | 9 => 9 | 66 => 121 | 70 => 125 | 76 => 129 | 77 => 130 | n => n, fun | n => n⟩
theorem Try.sortW : Go.Proofs.SlLaysF0.n6 Try.prog Try.sortW_ren := {
  mixed := by kernel_rfl
  f6 := ⟨Try.f33.name, by decide, Try.func33.trans (congrArg some (by kernel_rfl))⟩
  f14 := ⟨Try.f49.name, by decide, Try.func49.trans (congrArg some (by kernel_rfl))⟩
  f15 := Try.func50.trans (congrArg some (by kernel_rfl))
  f20 := ⟨Try.f58.name, by decide, Try.func58.trans (congrArg some (by kernel_rfl))⟩
  f21 := ⟨Try.f59.name, by decide, Try.func59.trans (congrArg some (by kernel_rfl))⟩
  f22 := ⟨Try.f60.name, by decide, Try.func60.trans (congrArg some (by kernel_rfl))⟩
  f23 := ⟨Try.f61.name, by decide, Try.func61.trans (congrArg some (by kernel_rfl))⟩
  f24 := ⟨Try.f62.name, by decide, Try.func62.trans (congrArg some (by kernel_rfl))⟩
  f25 := ⟨Try.f63.name, by decide, Try.func63.trans (congrArg some (by kernel_rfl))⟩
  f26 := ⟨Try.f64.name, by decide, Try.func64.trans (congrArg some (by kernel_rfl))⟩
  f27 := ⟨Try.f65.name, by decide, Try.func65.trans (congrArg some (by kernel_rfl))⟩
  f28 := Try.func66.trans (congrArg some (by kernel_rfl))
  f29 := Try.func67.trans (congrArg some (by kernel_rfl))
  f46 := ⟨Try.f72.name, by decide, Try.func72.trans (congrArg some (by kernel_rfl))⟩
  f47 := Try.func73.trans (congrArg some (by kernel_rfl))
  f48 := Try.func74.trans (congrArg some (by kernel_rfl))
  f49 := ⟨Try.f75.name, by decide, Try.func75.trans (congrArg some (by kernel_rfl))⟩
  f50 := ⟨Try.f76.name, by decide, Try.func76.trans (congrArg some (by kernel_rfl))⟩
  f57 := ⟨Try.f80.name, by decide, Try.func80.trans (congrArg some (by kernel_rfl))⟩
  t0 := Try.underlying0
  a0 := Try.isAgg0
  z0 := Try.sizeOf0
  v0 := Try.zeroValue0
  t3 := Try.underlying3
  a3 := Try.isAgg3
  z3 := Try.sizeOf3
  v3 := Try.zeroValue3
  t4 := Try.underlying4
  a4 := Try.isAgg4
  z4 := Try.sizeOf4
  v4 := Try.zeroValue4
  t5 := Try.underlying5
  a5 := Try.isAgg5
  z5 := Try.sizeOf5
  v5 := Try.zeroValue5
  t9 := Try.underlying9
  a9 := Try.isAgg9
  z9 := Try.sizeOf9
  v9 := Try.zeroValue9
  t22 := Try.underlying29
  a22 := Try.isAgg29
  z22 := Try.sizeOf29
  v22 := Try.zeroValue29
  t25 := Try.underlying77
  a25 := Try.isAgg77
  z25 := Try.sizeOf77
  v25 := Try.zeroValue77
  t39 := Try.underlying96
  a39 := Try.isAgg96
  z39 := Try.sizeOf96
  v39 := Try.zeroValue96
  t45 := Try.underlying106
  a45 := Try.isAgg106
  z45 := Try.sizeOf106
  v45 := Try.zeroValue106
  t46 := Try.underlying107
  a46 := Try.isAgg107
  z46 := Try.sizeOf107
  v46 := Try.zeroValue107
  t50 := Try.underlying111
  a50 := Try.isAgg111
  z50 := Try.sizeOf111
  v50 := Try.zeroValue111
  t53 := Try.underlying23
  a53 := Try.isAgg23
  z53 := Try.sizeOf23
  v53 := Try.zeroValue23
  t55 := Try.underlying26
  a55 := Try.isAgg26
  z55 := Try.sizeOf26
  v55 := Try.zeroValue26
  t66 := Try.underlying121
  a66 := Try.isAgg121
  z66 := Try.sizeOf121
  v66 := Try.zeroValue121
  t70 := Try.underlying125
  a70 := Try.isAgg125
  z70 := Try.sizeOf125
  v70 := Try.zeroValue125
  t76 := Try.underlying129
  a76 := Try.isAgg129
  z76 := Try.sizeOf129
  v76 := Try.zeroValue129
  t77 := Try.underlying130
  a77 := Try.isAgg130
  z77 := Try.sizeOf130
  v77 := Try.zeroValue130 }
end Go.Proofs

/- The sort of a holder's writes: a permutation in the order of keys. -/
namespace Go.Proofs.Ythcbefkgfhokoaa
open Go Go.Dv Go.Shelf Go.RowKit Go.Lib Go.Sort Go.Proofs
instance : Inhabited Wr := ⟨⟨emp, emp, false⟩⟩
def cmpW (a b : Wr) : Int := if slt a.key b.key then -1 else 1
set_option maxHeartbeats 1000000 in
theorem closure34 (x y : Wr) (W : World) : Calls Try.prog 34 #[.agg #[.string x.key, .string x.val, .bool x.dead], .agg #[.string y.key, .string y.val, .bool y.dead]] W fun e w' => e = .returned (.int .i64 (cmpW x y)) ∧ ∃ q os', w' = grow (W.drewN q) os' := by
  go_enter Try.func34, Try.ntmps34
  go_wp2
  all_goals (try go_ret)
  all_goals (refine ⟨by simp_all [cmpW, slt], 0, _, by rw [alloc_eq_grow, alloc_eq_grow, grow_grow]; rfl⟩)
theorem cmpLays34 (blk off size : Nat) (w : World) : CmpLays Try.prog 34 #[] Wr.cells 3 cmpW blk off size w := fun _ _ _ _ x y => closure34 x y _

theorem ltOf_eq (x y : Wr) : ltOf cmpW x y = slt x.key y.key := by
  unfold ltOf cmpW
  cases slt x.key y.key <;> simp
theorem swoW : SWO (ltOf cmpW) := by
  refine ⟨fun x => by rw [ltOf_eq, slt_irr], fun x y z h1 h2 => ?_, fun x y z h1 h2 => ?_⟩
  · rw [ltOf_eq] at *; exact slt_trans h1 h2
  · rw [ltOf_eq] at *
    cases h3 : slt x.key z.key with
    | false => rfl
    | true =>
      rcases slt_tri y.key z.key with h | h | h
      · rw [h] at h2; cases h2
      · rw [h] at h1; rw [h1] at h3; cases h3
      · have := slt_trans h3 h; rw [this] at h1; cases h1

theorem flat_get {k : Nat} (hk0 : 0 < k) {xs : List (List Value)} (hk : ∀ x ∈ xs, x.length = k) {t : Nat} {x : List Value} (hi : xs[t / k]? = some x) : xs.flatten[t]? = x[t % k]? := by
  obtain ⟨h1, h2⟩ := flat_at hk hi
  rw [← h1, List.getElem?_take, if_pos (Nat.mod_lt _ hk0), List.getElem?_drop]
  congr 1
  rw [Nat.mul_comm]; exact (Nat.div_add_mod t k).symm
theorem flatK_eq (d : Array Wr) : flatK Wr.cells 3 d = (wcs d.toList).flatten.toArray := by
  have hk : ∀ x ∈ wcs d.toList, x.length = 3 := by
    intro x hx
    obtain ⟨w, _, rfl⟩ := List.mem_map.1 hx
    rfl
  have hlen : (wcs d.toList).flatten.length = d.size * 3 := by rw [flat_len hk, wcs_len]; simp
  refine ext_get! (by rw [size_flatK]; simp [hlen]) fun t ht => ?_
  rw [size_flatK] at ht
  rw [get_flatK _ _ _ _ ht]
  have hlt : t / 3 < d.size := by omega
  have hx : (wcs d.toList)[t / 3]? = some (d[t / 3]!).cells := by
    rw [wcs, List.getElem?_map]
    simp [hlt]
  have h1 := flat_get (k := 3) (by decide) hk (t := t) hx
  generalize d[t / 3]! = y at h1 ⊢
  have h2 : t % 3 < y.cells.length := Nat.mod_lt t (show 0 < 3 by decide)
  rw [List.getElem?_eq_getElem h2] at h1
  have h3 : (wcs d.toList).flatten.toArray[t]! = y.cells[t % 3] := by rw [getElem!_def, List.getElem?_toArray, h1]
  rw [h3]
  exact getElem!_pos y.cells (t % 3) h2

theorem size39 (w : World) : (Go.sizeOf 39).run Try.prog w = .ok 3 w := by
  have h : sizeT Try.prog 39 = some 3 := by kernel_rfl
  unfold sizeT at h
  cases hi : Try.prog.info? 39 with
  | none => rw [hi] at h; cases h
  | some i => rw [hi] at h; simp only [Option.map_some, Option.some.injEq] at h; simp [Go.sizeOf, typeInfo, hi, h]
theorem bd34 : Bd Try.prog 34 := by
  have h : (match Try.prog.funcs[34]? with | some fn => (fn.name == "runtime.NumGoroutine") == false && fn.body.isSome | none => false) = true := by kernel_rfl
  split at h
  · rename_i fn hf
    simp only [Bool.and_eq_true, beq_iff_eq] at h
    cases hb : fn.body with
    | none => rw [hb] at h; simp at h
    | some c => exact ⟨fn, c, hf, h.1, hb⟩
  · cases h

theorem hw_putRow {w : World} {b : Nat} {d : Array Value} {c : List Value} {T : TypeId} (hb : hw w b = some (.cells c.toArray T (0, 0))) (hd : d.size ≤ c.length) : hw (putRow id w b 0 d) b = some (.cells (d.toList ++ c.drop d.size).toArray T (0, 0)) := by
  have hb' : w.heap[b]? = some (.cells c.toArray T (0, 0)) := hb
  show (w.heap.modify b _)[b]? = _
  rw [Array.getElem?_modify, if_pos rfl, hb']
  simp only [Option.map_some, onCells]
  congr 2
  apply Array.ext_getElem?
  intro k
  simp only [putCells, Array.getElem?_mapIdx, List.getElem?_toArray, Nat.zero_add, Nat.sub_zero, id]
  by_cases hk : k < d.size
  · have h1 : k < c.length := by omega
    rw [List.getElem?_append_left (by simpa using hk), List.getElem?_eq_getElem h1, Option.map_some, if_pos ⟨Nat.zero_le _, hk⟩]
    simp [hk]
  · rw [List.getElem?_append_right (by simpa using hk), List.getElem?_drop]
    have e : d.size + (k - d.toList.length) = k := by simp; omega
    rw [e]
    cases c[k]? with
    | none => rfl
    | some x => simp [hk]
theorem hw_putRow_ne {w : World} {b j : Nat} {d : Array Value} (h : j ≠ b) : hw (putRow id w b 0 d) j = hw w j := by
  show (w.heap.modify b _)[j]? = _
  rw [Array.getElem?_modify, if_neg (Ne.symm h)]; rfl

theorem Sort_spec (v : Value) (ws : List Wr) (h0 : ws ≠ []) (hl : ws.length < 4611686018427387904) : Fsp Try.prog 33 [v, .func (.func 34) #[] #[]] [OwS 39 3 v ws.length (wcs ws).flatten] fun u aa' =>
    u = .tuple #[] ∧ ∃ ws' : List Wr, ws'.Perm ws ∧ ws'.Pairwise (fun a b => slt b.key a.key = false) ∧ aa' = [OwS 39 3 v ws.length (wcs ws').flatten] := by
  intro gl F w hG hs
  obtain ⟨h1, h2, dj, un, ⟨hlen, hor⟩, hr⟩ := hs
  rcases hor with ⟨rfl, hz⟩ | ⟨b, cap, sp, rfl, hcap, hspl, hb⟩
  · exact absurd (List.length_eq_zero_iff.1 hz) h0
  have hbw : hw w b = some (.cells ((wcs ws).flatten ++ sp).toArray 39 (0, 0)) := by rw [un b, hb]; rfl
  have hbw' : w.heap[b]? = some (.cells ((wcs ws).flatten ++ sp).toArray 39 (0, 0)) := hbw
  have hblk : b < w.heap.size := (Array.getElem?_eq_some_iff.1 hbw').1
  have hfl : flatK Wr.cells 3 ws.toArray = (wcs ws).flatten.toArray := flatK_eq ws.toArray
  have hH : HoldsK Wr.cells 3 w b 0 ws.toArray := by
    intro j hj
    rw [hfl] at hj ⊢
    have hj' : j < (wcs ws).flatten.length := by simpa using hj
    refine ⟨?_, ?_⟩
    · unfold World.cell?
      simp only [hbw', Nat.zero_add, Option.isSome_none, Bool.false_eq_true, if_false, id]
      rw [List.getElem?_toArray, List.getElem?_append_left hj']
      simp [getElem!_def, List.getElem?_eq_getElem hj']
    · unfold World.frozen?
      simp only [hbw']
      simp
  have hcon := AnyQ.slices_SortFunc Try.sortW 3 Try.isAgg39 size39 Wr.cells (fun _ => rfl) (fun x v hv => by simp [Wr.cells] at hv; rcases hv with rfl | rfl | rfl <;> rfl) cmpW swoW 34 #[] b 0 cap ws.toArray w
    (by obtain ⟨fn, c, h1, h2, h3⟩ := bd34; intro args w; simp [callFunc, h1, h3]; simpa using h2) (cmpLays34 b 0 _ w) hH hblk (by simpa using hl)
  rw [List.size_toArray] at hcon
  change Calls Try.prog 33 _ _ _ at hcon
  refine Calls.mono hcon ?_
  rintro x w' ⟨rfl, d', n, os, hP, hS, rfl⟩
  obtain ⟨hsz0, _, hperm⟩ := hP
  have hsz : d'.size = ws.length := by simpa using hsz0
  have hperm' : d'.toList.Perm ws := by
    rw [show (Array.extract d' 0 ws.length) = d' by rw [← hsz]; simp] at hperm
    simpa using hperm
  have hfl' := flatK_eq d'
  have hk' : ∀ x ∈ wcs d'.toList, x.length = 3 := by
    intro x hx
    obtain ⟨w, _, rfl⟩ := List.mem_map.1 hx
    rfl
  have hlen' : (wcs d'.toList).flatten.length = ws.length * 3 := by rw [flat_len hk', wcs_len]; simp [hsz]
  have hsw : sortWorldK Wr.cells 3 w b 0 n d' os = grow (putRow id (Sort.ahead w n) b 0 (flatK Wr.cells 3 d')) os := rfl
  have hba : hw (Sort.ahead w n) b = some (.cells ((wcs ws).flatten ++ sp).toArray 39 (0, 0)) := hbw
  have hput := hw_putRow (d := flatK Wr.cells 3 d') hba (by rw [hfl']; simp only [List.size_toArray, List.length_append]; omega)
  have hdrop : ((wcs ws).flatten ++ sp).drop (flatK Wr.cells 3 d').size = sp := by
    rw [hfl', List.size_toArray, hlen', ← hlen, List.drop_left']; rfl
  have htl : (flatK Wr.cells 3 d').toList = (wcs d'.toList).flatten := by rw [hfl']
  rw [hdrop, htl] at hput
  have hold : ∀ j o, hw (putRow id (Sort.ahead w n) b 0 (flatK Wr.cells 3 d')) j = some o → hw (grow (putRow id (Sort.ahead w n) b 0 (flatK Wr.cells 3 d')) os) j = some o := by
    intro j o hj
    have hj' : (putRow id (Sort.ahead w n) b 0 (flatK Wr.cells 3 d')).heap[j]? = some o := hj
    have hlt := (Array.getElem?_eq_some_iff.1 hj').1
    show ((putRow id (Sort.ahead w n) b 0 (flatK Wr.cells 3 d')).heap ++ os)[j]? = some o
    rw [Array.getElem?_append_left hlt]; exact hj'
  refine ⟨.tuple #[], rfl, ⟨hG.1, hG.2⟩, [OwS 39 3 (.slice (some ⟨b, 0, none⟩) ws.length cap) ws.length (wcs d'.toList).flatten], ⟨rfl, d'.toList, hperm', ?_, rfl⟩, ?_⟩
  · rw [List.pairwise_iff_getElem]
    intro i j hi hj hij
    have := hS i j (Nat.zero_le _) hij (by have h := hj; rw [Array.length_toList] at h; omega)
    rw [ltOf_eq] at this
    rw [Array.length_toList] at hi hj
    simpa [hi, hj] using this
  · rw [hsw]
    refine sep_mono (h := hw (putRow id (Sort.ahead w n) b 0 (flatK Wr.cells 3 d'))) ?_ hold
    have hnb : h2 b = none := by
      rcases dj b with h | h
      · rw [hb] at h; cases h
      · exact h
    refine ⟨fun k => if k = b then some (.cells ((wcs d'.toList).flatten ++ sp).toArray 39 (0, 0)) else h1 k, h2, fun k => ?_, fun k => ?_, ⟨hlen', .inr ⟨b, cap, sp, rfl, hcap, ?_, if_pos rfl⟩⟩, hr⟩
    · by_cases hk : k = b
      · subst hk; exact .inr hnb
      · simp only [if_neg hk]; exact dj k
    · by_cases hk : k = b
      · subst hk; rw [hput]; simp
      · rw [hw_putRow_ne hk]; simp only [if_neg hk]; exact un k
    · rw [← hspl, List.length_append, List.length_append, hlen', hlen]
end Go.Proofs.Ythcbefkgfhokoaa

/- Lay. -/
namespace Go.Proofs.Ythcbefkgfhokoaa
open Go Go.Dv
open Classical
set_option maxRecDepth 100000
attribute [local irreducible] HTh HM En Fsp TrA Cl MpA OwS RdS MpO TabA HsA

theorem goR_ok {n : Nat} : ∀ (ws : List Wr) (seen : List ByteArray), goR n seen ws = true → (ws ≠ [] → n ≤ 16) ∧ Dist ws ∧ ∀ w ∈ ws, w.key ∉ seen
  | [], seen, _ => ⟨by simp, List.Pairwise.nil, by simp⟩
  | w :: ws, seen, h => by
    simp only [goR] at h
    split at h
    · rename_i hc
      obtain ⟨h1, h2, h3⟩ := goR_ok ws _ h
      simp only [Bool.and_eq_true, Bool.not_eq_true', okW] at hc
      obtain ⟨⟨⟨⟨c1, c2⟩, c3⟩, c4⟩, c5⟩ := hc
      have hns : w.key ∉ seen := fun hm => by rw [hasK_iff.2 hm] at c5; cases c5
      refine ⟨fun _ => ?_, List.pairwise_cons.2 ⟨fun v hv he => ?_, h2⟩, fun v hv => ?_⟩
      · simp at c1; omega
      · have := h3 v hv
        rw [← he] at this
        simp at this
      · rcases List.mem_cons.1 hv with rfl | hv
        · exact hns
        · have := h3 v hv
          simp at this
          exact this.1
    · cases h
theorem rightL_ok {ws : List Wr} (h : rightL ws = true) : ws ≠ [] ∧ ws.length ≤ 16 ∧ Dist ws := by
  simp only [rightL, Bool.and_eq_true, decide_eq_true_eq] at h
  obtain ⟨h1, h2⟩ := h
  obtain ⟨a, b, _⟩ := goR_ok ws [] h1
  have h0 : ws ≠ [] := List.length_pos_iff.1 h2
  exact ⟨h0, a h0, b⟩

def layA (st mn : Sm) (pr : ByteArray) (ws : List Wr) : Bool := rightL ws && st.ok && mn.ok && keyR pr
def layB (L : List In) (tx : Tx) (ws : List Wr) : Bool := !(byL L tx).isEmpty || ws.any fun w => (ofL L w.key).isSome
def layE (L : List In) (tx : Tx) (hd : Hd) (ws : List Wr) : Int := if layA hd.start hd.min hd.prim ws then (if layB L tx ws then 40 else 0) else 1
def layL (L : List In) (tx : Tx) (hd : Hd) (ws : List Wr) : List In := if layA hd.start hd.min hd.prim ws then (if layB L tx ws then L else layF tx hd L ws) else L

section
variable {aa r : List HP} {J : PH → Prop}
theorem en_tabl {t : Nat} {hs : List Hold} {keys : KL} {L : List In} (I : Inv hs keys L) (pk : Pk aa (TabA t hs keys) r) (m : En (TabL t L :: r) J) : En aa J := by
  unfold En
  intro h hs'
  unfold En at m
  exact m h (sep_head (pk.out hs') (tabL_mk I))
end
theorem bd_busy (keys : KL) (L : List In) (ws : List Wr) (h : keys = L.map kow) : ws.any (busyP keys) = ws.any fun w => (ofL L w.key).isSome := by
  congr 1
  funext w
  rw [busyP, h, getK_map]
  simp
theorem insW_len (tx : Tx) : ∀ (ws : List Wr) (keys : KL), (insW tx keys ws).length ≤ keys.length + ws.length
  | [], keys => by simp [insW]
  | w :: ws, keys => by
    have h1 := insK_len keys w.key ⟨tx.c, tx.n, w.key, w.val, w.dead⟩
    have h2 := insW_len tx ws (insK keys w.key ⟨tx.c, tx.n, w.key, w.val, w.dead⟩)
    show (insW tx (insK keys w.key _) ws).length ≤ _
    simp only [List.length_cons]; omega

theorem Lay_L (R : HP) (t : Nat) (L : List In) (tx : Tx) (hd : Hd) (wv : Value) (ws : List Wr) (hv : RdS R 3 wv (wcs ws)) (hl : ws.length < 9223372036854775808) (hL : L.length ≤ 1073741824) (hok : tx.ok) (hmin : hd.min.nn) :
    Fsp Try.prog 10 [.pointer (some ⟨t, 0, none⟩), tx.V, hd.start.V, hd.min.V, .string hd.prim, wv] [TabL t L, R] fun u aa' => u = .int .i64 (layE L tx hd ws) ∧ aa' = [TabL t (layL L tx hd ws), R] := by
  refine fsp_tab fun hs keys I => ?_
  have hko := keyOk25 hok
  have hR1 := Right_spec hd.start
  have hR2 := Right_spec hd.min
  have hklen := I.len
  have hrl := fun h => rightL_ok (ws := ws) h
  have hbd := bd_busy keys L ws I.keys
  have hRL := RightL_spec R wv ws hv hl
  have hlook : (∀ y ∈ entL hs, y.1 ≠ tx.V) ∧ (byL L tx).isEmpty = true ∨ (∃ x ∈ hs, x.tx = tx) ∧ (byL L tx).isEmpty = false := by
    rcases hold_dec hs tx with hn | ⟨x, hx, rfl⟩
    · exact .inl ⟨ent_no hn, by rw [I.by_none hn]; rfl⟩
    · refine .inr ⟨⟨x, hx, rfl⟩, ?_⟩
      cases h : byL L x.tx with
      | nil => exact absurd h (I.by_some hx)
      | cons => rfl
  obtain ⟨a, c, rfl⟩ := hv.len
  have hlen := wcs_len ws
  rw [hlen] at hv hRL ⊢
  obtain ⟨⟨sp, sl⟩, ⟨mp, ml⟩, pr⟩ := hd
  obtain ⟨tc, tn⟩ := tx
  dsimp only at hR1 hR2 hmin ⊢
  simp only [Tx.V, Sm.V] at hko hlook hR1 hR2 ⊢
  have hA : layA ⟨sp, sl⟩ ⟨mp, ml⟩ pr ws = (rightL ws && (Sm.mk sp sl).ok && (Sm.mk mp ml).ok && keyR pr) := rfl
  have c1 : layA ⟨sp, sl⟩ ⟨mp, ml⟩ pr ws = false → layE L ⟨tc, tn⟩ ⟨⟨sp, sl⟩, ⟨mp, ml⟩, pr⟩ ws = 1 ∧ layL L ⟨tc, tn⟩ ⟨⟨sp, sl⟩, ⟨mp, ml⟩, pr⟩ ws = L := fun h => by simp [layE, layL, h]
  have c2 : layA ⟨sp, sl⟩ ⟨mp, ml⟩ pr ws = true → layB L ⟨tc, tn⟩ ws = true → layE L ⟨tc, tn⟩ ⟨⟨sp, sl⟩, ⟨mp, ml⟩, pr⟩ ws = 40 ∧ layL L ⟨tc, tn⟩ ⟨⟨sp, sl⟩, ⟨mp, ml⟩, pr⟩ ws = L := fun h h' => by simp [layE, layL, h, h']
  have c3 : layA ⟨sp, sl⟩ ⟨mp, ml⟩ pr ws = true → layB L ⟨tc, tn⟩ ws = false → layE L ⟨tc, tn⟩ ⟨⟨sp, sl⟩, ⟨mp, ml⟩, pr⟩ ws = 0 ∧ layL L ⟨tc, tn⟩ ⟨⟨sp, sl⟩, ⟨mp, ml⟩, pr⟩ ws = layF ⟨tc, tn⟩ ⟨⟨sp, sl⟩, ⟨mp, ml⟩, pr⟩ L ws := fun h h' => by simp [layE, layL, h, h']
  generalize layE L ⟨tc, tn⟩ ⟨⟨sp, sl⟩, ⟨mp, ml⟩, pr⟩ ws = E at c1 c2 c3 ⊢
  generalize layL L ⟨tc, tn⟩ ⟨⟨sp, sl⟩, ⟨mp, ml⟩, pr⟩ ws = Lr at c1 c2 c3 ⊢
  rw [hA] at c1 c2 c3
  clear hA
  generalize (Sm.mk sp sl).ok = o1 at hR1 c1 c2 c3
  generalize (Sm.mk mp ml).ok = o2 at hR2 c1 c2 c3
  generalize rightL ws = rr at hrl hRL c1 c2 c3
  have hkey := key_spec pr
  generalize keyR pr = kk at hkey c1 c2 c3
  refine spec_of F10.ok rfl fun gl X => ?_
  dsimp only [List.cons_append, List.nil_append]
  (repeat (first | ((with_reducible apply t_run); exact rfl) | ((with_reducible apply t_p); exact rfl; exact rfl) | ((with_reducible apply t_gr); exact rfl) | ((with_reducible apply t_ge); exact rfl) | ((with_reducible apply t_ld); exact rfl; exact rfl; (repeat (first | with_reducible exact Pk.h | with_reducible apply Pk.t)); exact rfl) | ((with_reducible apply t_st); exact rfl; exact rfl; exact rfl; (repeat (first | with_reducible exact Pk.h | with_reducible apply Pk.t)); exact rfl; exact rfl; exact Nat.le_of_ble_eq_true rfl; exact rfl; (repeat (first | apply rk_nil | (apply rk_skip; exact rfl) | (apply rk_ld; exact rfl; (repeat (first | with_reducible exact Pk.h | with_reducible apply Pk.t)); exact rfl)))) | ((with_reducible apply t_nx F10.k); exact rfl; exact rfl) | with_reducible apply m_seq | (with_reducible apply m_reg mix) | with_reducible apply m_block | ((with_reducible apply m_ct); exact rfl) | ((with_reducible apply m_cf); exact rfl) | ((with_reducible apply m_skn); exact rfl) | ((with_reducible apply m_exn); exact rfl)))
  refine t_bx rfl rfl rfl fun b6 => ⟨(by (repeat (first | apply rk_nil | (apply rk_skip; exact rfl) | (apply rk_ld; exact rfl; (repeat (first | with_reducible exact Pk.h | with_reducible apply Pk.t)); exact rfl)))), ?_⟩
  try dsimp only [List.cons_append, List.nil_append]
  (repeat (first | ((with_reducible apply t_run); exact rfl) | ((with_reducible apply t_p); exact rfl; exact rfl) | ((with_reducible apply t_gr); exact rfl) | ((with_reducible apply t_ge); exact rfl) | ((with_reducible apply t_ld); exact rfl; exact rfl; (repeat (first | with_reducible exact Pk.h | with_reducible apply Pk.t)); exact rfl) | ((with_reducible apply t_st); exact rfl; exact rfl; exact rfl; (repeat (first | with_reducible exact Pk.h | with_reducible apply Pk.t)); exact rfl; exact rfl; exact Nat.le_of_ble_eq_true rfl; exact rfl; (repeat (first | apply rk_nil | (apply rk_skip; exact rfl) | (apply rk_ld; exact rfl; (repeat (first | with_reducible exact Pk.h | with_reducible apply Pk.t)); exact rfl)))) | ((with_reducible apply t_nx F10.k); exact rfl; exact rfl) | with_reducible apply m_seq | (with_reducible apply m_reg mix) | with_reducible apply m_block | ((with_reducible apply m_ct); exact rfl) | ((with_reducible apply m_cf); exact rfl) | ((with_reducible apply m_skn); exact rfl) | ((with_reducible apply m_exn); exact rfl)))
  refine t_bx rfl rfl rfl fun b7 => ⟨(by (repeat (first | apply rk_nil | (apply rk_skip; exact rfl) | (apply rk_ld; exact rfl; (repeat (first | with_reducible exact Pk.h | with_reducible apply Pk.t)); exact rfl)))), ?_⟩
  try dsimp only [List.cons_append, List.nil_append]
  (repeat (first | ((with_reducible apply t_run); exact rfl) | ((with_reducible apply t_p); exact rfl; exact rfl) | ((with_reducible apply t_gr); exact rfl) | ((with_reducible apply t_ge); exact rfl) | ((with_reducible apply t_ld); exact rfl; exact rfl; (repeat (first | with_reducible exact Pk.h | with_reducible apply Pk.t)); exact rfl) | ((with_reducible apply t_st); exact rfl; exact rfl; exact rfl; (repeat (first | with_reducible exact Pk.h | with_reducible apply Pk.t)); exact rfl; exact rfl; exact Nat.le_of_ble_eq_true rfl; exact rfl; (repeat (first | apply rk_nil | (apply rk_skip; exact rfl) | (apply rk_ld; exact rfl; (repeat (first | with_reducible exact Pk.h | with_reducible apply Pk.t)); exact rfl)))) | ((with_reducible apply t_nx F10.k); exact rfl; exact rfl) | with_reducible apply m_seq | (with_reducible apply m_reg mix) | with_reducible apply m_block | ((with_reducible apply m_ct); exact rfl) | ((with_reducible apply m_cf); exact rfl) | ((with_reducible apply m_skn); exact rfl) | ((with_reducible apply m_exn); exact rfl)))
  refine t_bx rfl rfl rfl fun b8 => ⟨(by (repeat (first | apply rk_nil | (apply rk_skip; exact rfl) | (apply rk_ld; exact rfl; (repeat (first | with_reducible exact Pk.h | with_reducible apply Pk.t)); exact rfl)))), ?_⟩
  try dsimp only [List.cons_append, List.nil_append]
  (repeat (first | ((with_reducible apply t_run); exact rfl) | ((with_reducible apply t_p); exact rfl; exact rfl) | ((with_reducible apply t_gr); exact rfl) | ((with_reducible apply t_ge); exact rfl) | ((with_reducible apply t_ld); exact rfl; exact rfl; (repeat (first | with_reducible exact Pk.h | with_reducible apply Pk.t)); exact rfl) | ((with_reducible apply t_st); exact rfl; exact rfl; exact rfl; (repeat (first | with_reducible exact Pk.h | with_reducible apply Pk.t)); exact rfl; exact rfl; exact Nat.le_of_ble_eq_true rfl; exact rfl; (repeat (first | apply rk_nil | (apply rk_skip; exact rfl) | (apply rk_ld; exact rfl; (repeat (first | with_reducible exact Pk.h | with_reducible apply Pk.t)); exact rfl)))) | ((with_reducible apply t_nx F10.k); exact rfl; exact rfl) | with_reducible apply m_seq | (with_reducible apply m_reg mix) | with_reducible apply m_block | ((with_reducible apply m_ct); exact rfl) | ((with_reducible apply m_cf); exact rfl) | ((with_reducible apply m_skn); exact rfl) | ((with_reducible apply m_exn); exact rfl)))
  refine t_bx rfl rfl rfl fun b9 => ⟨(by (repeat (first | apply rk_nil | (apply rk_skip; exact rfl) | (apply rk_ld; exact rfl; (repeat (first | with_reducible exact Pk.h | with_reducible apply Pk.t)); exact rfl)))), ?_⟩
  try dsimp only [List.cons_append, List.nil_append]
  (repeat (first | ((with_reducible apply t_run); exact rfl) | ((with_reducible apply t_p); exact rfl; exact rfl) | ((with_reducible apply t_gr); exact rfl) | ((with_reducible apply t_ge); exact rfl) | ((with_reducible apply t_ld); exact rfl; exact rfl; (repeat (first | with_reducible exact Pk.h | with_reducible apply Pk.t)); exact rfl) | ((with_reducible apply t_st); exact rfl; exact rfl; exact rfl; (repeat (first | with_reducible exact Pk.h | with_reducible apply Pk.t)); exact rfl; exact rfl; exact Nat.le_of_ble_eq_true rfl; exact rfl; (repeat (first | apply rk_nil | (apply rk_skip; exact rfl) | (apply rk_ld; exact rfl; (repeat (first | with_reducible exact Pk.h | with_reducible apply Pk.t)); exact rfl)))) | ((with_reducible apply t_nx F10.k); exact rfl; exact rfl) | with_reducible apply m_seq | (with_reducible apply m_reg mix) | with_reducible apply m_block | ((with_reducible apply m_ct); exact rfl) | ((with_reducible apply m_cf); exact rfl) | ((with_reducible apply m_skn); exact rfl) | ((with_reducible apply m_exn); exact rfl)))
  refine t_cl rfl rfl (hRL) (by repeat (first | apply Sx.nil | apply Pk.h | apply Sx.cons | apply Pk.t)) ?_
  rintro _ _ ⟨rfl, rfl⟩
  refine ⟨?_, ?_⟩ <;> (try dsimp only [List.cons_append, List.nil_append])
  · (repeat (first | apply rk_nil | (apply rk_skip; exact rfl) | (apply rk_ld; exact rfl; (repeat (first | with_reducible exact Pk.h | with_reducible apply Pk.t)); exact rfl)))
  (repeat (first | ((with_reducible apply t_run); exact rfl) | ((with_reducible apply t_p); exact rfl; exact rfl) | ((with_reducible apply t_gr); exact rfl) | ((with_reducible apply t_ge); exact rfl) | ((with_reducible apply t_ld); exact rfl; exact rfl; (repeat (first | with_reducible exact Pk.h | with_reducible apply Pk.t)); exact rfl) | ((with_reducible apply t_st); exact rfl; exact rfl; exact rfl; (repeat (first | with_reducible exact Pk.h | with_reducible apply Pk.t)); exact rfl; exact rfl; exact Nat.le_of_ble_eq_true rfl; exact rfl; (repeat (first | apply rk_nil | (apply rk_skip; exact rfl) | (apply rk_ld; exact rfl; (repeat (first | with_reducible exact Pk.h | with_reducible apply Pk.t)); exact rfl)))) | ((with_reducible apply t_nx F10.k); exact rfl; exact rfl) | with_reducible apply m_seq | (with_reducible apply m_reg mix) | with_reducible apply m_block | ((with_reducible apply m_ct); exact rfl) | ((with_reducible apply m_cf); exact rfl) | ((with_reducible apply m_skn); exact rfl) | ((with_reducible apply m_exn); exact rfl)))
  cases rr with
  | false =>
    obtain ⟨rfl, rfl⟩ := c1 (by simp)
    (repeat (first | ((with_reducible apply t_run); exact rfl) | ((with_reducible apply t_p); exact rfl; exact rfl) | ((with_reducible apply t_gr); exact rfl) | ((with_reducible apply t_ge); exact rfl) | ((with_reducible apply t_ld); exact rfl; exact rfl; (repeat (first | with_reducible exact Pk.h | with_reducible apply Pk.t)); exact rfl) | ((with_reducible apply t_st); exact rfl; exact rfl; exact rfl; (repeat (first | with_reducible exact Pk.h | with_reducible apply Pk.t)); exact rfl; exact rfl; exact Nat.le_of_ble_eq_true rfl; exact rfl; (repeat (first | apply rk_nil | (apply rk_skip; exact rfl) | (apply rk_ld; exact rfl; (repeat (first | with_reducible exact Pk.h | with_reducible apply Pk.t)); exact rfl)))) | ((with_reducible apply t_nx F10.k); exact rfl; exact rfl) | with_reducible apply m_seq | (with_reducible apply m_reg mix) | with_reducible apply m_block | ((with_reducible apply m_ct); exact rfl) | ((with_reducible apply m_cf); exact rfl) | ((with_reducible apply m_skn); exact rfl) | ((with_reducible apply m_exn); exact rfl)))
    refine en_tabl I (by repeat (first | with_reducible exact Pk.h | with_reducible apply Pk.t)) ?_
    apply m_ret
    · rfl
    · (repeat (first | apply rs_nil | (apply rs_tmp; exact rfl) | (apply rs_cell; exact rfl; (repeat (first | with_reducible exact Pk.h | with_reducible apply Pk.t)); exact rfl)))
    · exact ⟨rfl, rfl⟩
    · exact (by repeat (first | apply Sx.nil | apply Pk.h | apply Sx.cons | apply Pk.t))
  | true =>
  (repeat (first | ((with_reducible apply t_run); exact rfl) | ((with_reducible apply t_p); exact rfl; exact rfl) | ((with_reducible apply t_gr); exact rfl) | ((with_reducible apply t_ge); exact rfl) | ((with_reducible apply t_ld); exact rfl; exact rfl; (repeat (first | with_reducible exact Pk.h | with_reducible apply Pk.t)); exact rfl) | ((with_reducible apply t_st); exact rfl; exact rfl; exact rfl; (repeat (first | with_reducible exact Pk.h | with_reducible apply Pk.t)); exact rfl; exact rfl; exact Nat.le_of_ble_eq_true rfl; exact rfl; (repeat (first | apply rk_nil | (apply rk_skip; exact rfl) | (apply rk_ld; exact rfl; (repeat (first | with_reducible exact Pk.h | with_reducible apply Pk.t)); exact rfl)))) | ((with_reducible apply t_nx F10.k); exact rfl; exact rfl) | with_reducible apply m_seq | (with_reducible apply m_reg mix) | with_reducible apply m_block | ((with_reducible apply m_ct); exact rfl) | ((with_reducible apply m_cf); exact rfl) | ((with_reducible apply m_skn); exact rfl) | ((with_reducible apply m_exn); exact rfl)))
  refine t_cl rfl rfl (hR1) (by repeat (first | apply Sx.nil | apply Pk.h | apply Sx.cons | apply Pk.t)) ?_
  rintro _ _ ⟨rfl, rfl⟩
  refine ⟨?_, ?_⟩ <;> (try dsimp only [List.cons_append, List.nil_append])
  · (repeat (first | apply rk_nil | (apply rk_skip; exact rfl) | (apply rk_ld; exact rfl; (repeat (first | with_reducible exact Pk.h | with_reducible apply Pk.t)); exact rfl)))
  (repeat (first | ((with_reducible apply t_run); exact rfl) | ((with_reducible apply t_p); exact rfl; exact rfl) | ((with_reducible apply t_gr); exact rfl) | ((with_reducible apply t_ge); exact rfl) | ((with_reducible apply t_ld); exact rfl; exact rfl; (repeat (first | with_reducible exact Pk.h | with_reducible apply Pk.t)); exact rfl) | ((with_reducible apply t_st); exact rfl; exact rfl; exact rfl; (repeat (first | with_reducible exact Pk.h | with_reducible apply Pk.t)); exact rfl; exact rfl; exact Nat.le_of_ble_eq_true rfl; exact rfl; (repeat (first | apply rk_nil | (apply rk_skip; exact rfl) | (apply rk_ld; exact rfl; (repeat (first | with_reducible exact Pk.h | with_reducible apply Pk.t)); exact rfl)))) | ((with_reducible apply t_nx F10.k); exact rfl; exact rfl) | with_reducible apply m_seq | (with_reducible apply m_reg mix) | with_reducible apply m_block | ((with_reducible apply m_ct); exact rfl) | ((with_reducible apply m_cf); exact rfl) | ((with_reducible apply m_skn); exact rfl) | ((with_reducible apply m_exn); exact rfl)))
  cases o1 with
  | false =>
    obtain ⟨rfl, rfl⟩ := c1 (by simp)
    (repeat (first | ((with_reducible apply t_run); exact rfl) | ((with_reducible apply t_p); exact rfl; exact rfl) | ((with_reducible apply t_gr); exact rfl) | ((with_reducible apply t_ge); exact rfl) | ((with_reducible apply t_ld); exact rfl; exact rfl; (repeat (first | with_reducible exact Pk.h | with_reducible apply Pk.t)); exact rfl) | ((with_reducible apply t_st); exact rfl; exact rfl; exact rfl; (repeat (first | with_reducible exact Pk.h | with_reducible apply Pk.t)); exact rfl; exact rfl; exact Nat.le_of_ble_eq_true rfl; exact rfl; (repeat (first | apply rk_nil | (apply rk_skip; exact rfl) | (apply rk_ld; exact rfl; (repeat (first | with_reducible exact Pk.h | with_reducible apply Pk.t)); exact rfl)))) | ((with_reducible apply t_nx F10.k); exact rfl; exact rfl) | with_reducible apply m_seq | (with_reducible apply m_reg mix) | with_reducible apply m_block | ((with_reducible apply m_ct); exact rfl) | ((with_reducible apply m_cf); exact rfl) | ((with_reducible apply m_skn); exact rfl) | ((with_reducible apply m_exn); exact rfl)))
    refine en_tabl I (by repeat (first | with_reducible exact Pk.h | with_reducible apply Pk.t)) ?_
    apply m_ret
    · rfl
    · (repeat (first | apply rs_nil | (apply rs_tmp; exact rfl) | (apply rs_cell; exact rfl; (repeat (first | with_reducible exact Pk.h | with_reducible apply Pk.t)); exact rfl)))
    · exact ⟨rfl, rfl⟩
    · exact (by repeat (first | apply Sx.nil | apply Pk.h | apply Sx.cons | apply Pk.t))
  | true =>
  (repeat (first | ((with_reducible apply t_run); exact rfl) | ((with_reducible apply t_p); exact rfl; exact rfl) | ((with_reducible apply t_gr); exact rfl) | ((with_reducible apply t_ge); exact rfl) | ((with_reducible apply t_ld); exact rfl; exact rfl; (repeat (first | with_reducible exact Pk.h | with_reducible apply Pk.t)); exact rfl) | ((with_reducible apply t_st); exact rfl; exact rfl; exact rfl; (repeat (first | with_reducible exact Pk.h | with_reducible apply Pk.t)); exact rfl; exact rfl; exact Nat.le_of_ble_eq_true rfl; exact rfl; (repeat (first | apply rk_nil | (apply rk_skip; exact rfl) | (apply rk_ld; exact rfl; (repeat (first | with_reducible exact Pk.h | with_reducible apply Pk.t)); exact rfl)))) | ((with_reducible apply t_nx F10.k); exact rfl; exact rfl) | with_reducible apply m_seq | (with_reducible apply m_reg mix) | with_reducible apply m_block | ((with_reducible apply m_ct); exact rfl) | ((with_reducible apply m_cf); exact rfl) | ((with_reducible apply m_skn); exact rfl) | ((with_reducible apply m_exn); exact rfl)))
  refine t_cl rfl rfl (hR2) (by repeat (first | apply Sx.nil | apply Pk.h | apply Sx.cons | apply Pk.t)) ?_
  rintro _ _ ⟨rfl, rfl⟩
  refine ⟨?_, ?_⟩ <;> (try dsimp only [List.cons_append, List.nil_append])
  · (repeat (first | apply rk_nil | (apply rk_skip; exact rfl) | (apply rk_ld; exact rfl; (repeat (first | with_reducible exact Pk.h | with_reducible apply Pk.t)); exact rfl)))
  (repeat (first | ((with_reducible apply t_run); exact rfl) | ((with_reducible apply t_p); exact rfl; exact rfl) | ((with_reducible apply t_gr); exact rfl) | ((with_reducible apply t_ge); exact rfl) | ((with_reducible apply t_ld); exact rfl; exact rfl; (repeat (first | with_reducible exact Pk.h | with_reducible apply Pk.t)); exact rfl) | ((with_reducible apply t_st); exact rfl; exact rfl; exact rfl; (repeat (first | with_reducible exact Pk.h | with_reducible apply Pk.t)); exact rfl; exact rfl; exact Nat.le_of_ble_eq_true rfl; exact rfl; (repeat (first | apply rk_nil | (apply rk_skip; exact rfl) | (apply rk_ld; exact rfl; (repeat (first | with_reducible exact Pk.h | with_reducible apply Pk.t)); exact rfl)))) | ((with_reducible apply t_nx F10.k); exact rfl; exact rfl) | with_reducible apply m_seq | (with_reducible apply m_reg mix) | with_reducible apply m_block | ((with_reducible apply m_ct); exact rfl) | ((with_reducible apply m_cf); exact rfl) | ((with_reducible apply m_skn); exact rfl) | ((with_reducible apply m_exn); exact rfl)))
  cases o2 with
  | false =>
    obtain ⟨rfl, rfl⟩ := c1 (by simp)
    (repeat (first | ((with_reducible apply t_run); exact rfl) | ((with_reducible apply t_p); exact rfl; exact rfl) | ((with_reducible apply t_gr); exact rfl) | ((with_reducible apply t_ge); exact rfl) | ((with_reducible apply t_ld); exact rfl; exact rfl; (repeat (first | with_reducible exact Pk.h | with_reducible apply Pk.t)); exact rfl) | ((with_reducible apply t_st); exact rfl; exact rfl; exact rfl; (repeat (first | with_reducible exact Pk.h | with_reducible apply Pk.t)); exact rfl; exact rfl; exact Nat.le_of_ble_eq_true rfl; exact rfl; (repeat (first | apply rk_nil | (apply rk_skip; exact rfl) | (apply rk_ld; exact rfl; (repeat (first | with_reducible exact Pk.h | with_reducible apply Pk.t)); exact rfl)))) | ((with_reducible apply t_nx F10.k); exact rfl; exact rfl) | with_reducible apply m_seq | (with_reducible apply m_reg mix) | with_reducible apply m_block | ((with_reducible apply m_ct); exact rfl) | ((with_reducible apply m_cf); exact rfl) | ((with_reducible apply m_skn); exact rfl) | ((with_reducible apply m_exn); exact rfl)))
    refine en_tabl I (by repeat (first | with_reducible exact Pk.h | with_reducible apply Pk.t)) ?_
    apply m_ret
    · rfl
    · (repeat (first | apply rs_nil | (apply rs_tmp; exact rfl) | (apply rs_cell; exact rfl; (repeat (first | with_reducible exact Pk.h | with_reducible apply Pk.t)); exact rfl)))
    · exact ⟨rfl, rfl⟩
    · exact (by repeat (first | apply Sx.nil | apply Pk.h | apply Sx.cons | apply Pk.t))
  | true =>
  (repeat (first | ((with_reducible apply t_run); exact rfl) | ((with_reducible apply t_p); exact rfl; exact rfl) | ((with_reducible apply t_gr); exact rfl) | ((with_reducible apply t_ge); exact rfl) | ((with_reducible apply t_ld); exact rfl; exact rfl; (repeat (first | with_reducible exact Pk.h | with_reducible apply Pk.t)); exact rfl) | ((with_reducible apply t_st); exact rfl; exact rfl; exact rfl; (repeat (first | with_reducible exact Pk.h | with_reducible apply Pk.t)); exact rfl; exact rfl; exact Nat.le_of_ble_eq_true rfl; exact rfl; (repeat (first | apply rk_nil | (apply rk_skip; exact rfl) | (apply rk_ld; exact rfl; (repeat (first | with_reducible exact Pk.h | with_reducible apply Pk.t)); exact rfl)))) | ((with_reducible apply t_nx F10.k); exact rfl; exact rfl) | with_reducible apply m_seq | (with_reducible apply m_reg mix) | with_reducible apply m_block | ((with_reducible apply m_ct); exact rfl) | ((with_reducible apply m_cf); exact rfl) | ((with_reducible apply m_skn); exact rfl) | ((with_reducible apply m_exn); exact rfl)))
  refine t_cl rfl rfl (hkey) (by repeat (first | apply Sx.nil | apply Pk.h | apply Sx.cons | apply Pk.t)) ?_
  rintro _ _ ⟨rfl, rfl⟩
  refine ⟨?_, ?_⟩ <;> (try dsimp only [List.cons_append, List.nil_append])
  · (repeat (first | apply rk_nil | (apply rk_skip; exact rfl) | (apply rk_ld; exact rfl; (repeat (first | with_reducible exact Pk.h | with_reducible apply Pk.t)); exact rfl)))
  (repeat (first | ((with_reducible apply t_run); exact rfl) | ((with_reducible apply t_p); exact rfl; exact rfl) | ((with_reducible apply t_gr); exact rfl) | ((with_reducible apply t_ge); exact rfl) | ((with_reducible apply t_ld); exact rfl; exact rfl; (repeat (first | with_reducible exact Pk.h | with_reducible apply Pk.t)); exact rfl) | ((with_reducible apply t_st); exact rfl; exact rfl; exact rfl; (repeat (first | with_reducible exact Pk.h | with_reducible apply Pk.t)); exact rfl; exact rfl; exact Nat.le_of_ble_eq_true rfl; exact rfl; (repeat (first | apply rk_nil | (apply rk_skip; exact rfl) | (apply rk_ld; exact rfl; (repeat (first | with_reducible exact Pk.h | with_reducible apply Pk.t)); exact rfl)))) | ((with_reducible apply t_nx F10.k); exact rfl; exact rfl) | with_reducible apply m_seq | (with_reducible apply m_reg mix) | with_reducible apply m_block | ((with_reducible apply m_ct); exact rfl) | ((with_reducible apply m_cf); exact rfl) | ((with_reducible apply m_skn); exact rfl) | ((with_reducible apply m_exn); exact rfl)))
  cases kk with
  | false =>
    obtain ⟨rfl, rfl⟩ := c1 (by simp)
    (repeat (first | ((with_reducible apply t_run); exact rfl) | ((with_reducible apply t_p); exact rfl; exact rfl) | ((with_reducible apply t_gr); exact rfl) | ((with_reducible apply t_ge); exact rfl) | ((with_reducible apply t_ld); exact rfl; exact rfl; (repeat (first | with_reducible exact Pk.h | with_reducible apply Pk.t)); exact rfl) | ((with_reducible apply t_st); exact rfl; exact rfl; exact rfl; (repeat (first | with_reducible exact Pk.h | with_reducible apply Pk.t)); exact rfl; exact rfl; exact Nat.le_of_ble_eq_true rfl; exact rfl; (repeat (first | apply rk_nil | (apply rk_skip; exact rfl) | (apply rk_ld; exact rfl; (repeat (first | with_reducible exact Pk.h | with_reducible apply Pk.t)); exact rfl)))) | ((with_reducible apply t_nx F10.k); exact rfl; exact rfl) | with_reducible apply m_seq | (with_reducible apply m_reg mix) | with_reducible apply m_block | ((with_reducible apply m_ct); exact rfl) | ((with_reducible apply m_cf); exact rfl) | ((with_reducible apply m_skn); exact rfl) | ((with_reducible apply m_exn); exact rfl)))
    refine en_tabl I (by repeat (first | with_reducible exact Pk.h | with_reducible apply Pk.t)) ?_
    apply m_ret
    · rfl
    · (repeat (first | apply rs_nil | (apply rs_tmp; exact rfl) | (apply rs_cell; exact rfl; (repeat (first | with_reducible exact Pk.h | with_reducible apply Pk.t)); exact rfl)))
    · exact ⟨rfl, rfl⟩
    · exact (by repeat (first | apply Sx.nil | apply Pk.h | apply Sx.cons | apply Pk.t))
  | true =>
  (repeat (first | ((with_reducible apply t_run); exact rfl) | ((with_reducible apply t_p); exact rfl; exact rfl) | ((with_reducible apply t_gr); exact rfl) | ((with_reducible apply t_ge); exact rfl) | ((with_reducible apply t_ld); exact rfl; exact rfl; (repeat (first | with_reducible exact Pk.h | with_reducible apply Pk.t)); exact rfl) | ((with_reducible apply t_st); exact rfl; exact rfl; exact rfl; (repeat (first | with_reducible exact Pk.h | with_reducible apply Pk.t)); exact rfl; exact rfl; exact Nat.le_of_ble_eq_true rfl; exact rfl; (repeat (first | apply rk_nil | (apply rk_skip; exact rfl) | (apply rk_ld; exact rfl; (repeat (first | with_reducible exact Pk.h | with_reducible apply Pk.t)); exact rfl)))) | ((with_reducible apply t_nx F10.k); exact rfl; exact rfl) | with_reducible apply m_seq | (with_reducible apply m_reg mix) | with_reducible apply m_block | ((with_reducible apply m_ct); exact rfl) | ((with_reducible apply m_cf); exact rfl) | ((with_reducible apply m_skn); exact rfl) | ((with_reducible apply m_exn); exact rfl)))
  clear hRL hR1 hR2 hkey c1
  obtain ⟨h0, h16, hdist⟩ := hrl rfl
  clear hrl
  replace c2 := c2 rfl
  replace c3 := c3 rfl
  have hB : layB L ⟨tc, tn⟩ ws = (!(byL L ⟨tc, tn⟩).isEmpty || ws.any (busyP keys)) := by rw [hbd]; rfl
  rw [hB] at c2 c3
  clear hB
  refine en_tab (by repeat (first | with_reducible exact Pk.h | with_reducible apply Pk.t)) fun hb m => ?_
  (repeat (first | ((with_reducible apply t_run); exact rfl) | ((with_reducible apply t_p); exact rfl; exact rfl) | ((with_reducible apply t_gr); exact rfl) | ((with_reducible apply t_ge); exact rfl) | ((with_reducible apply t_ld); exact rfl; exact rfl; (repeat (first | with_reducible exact Pk.h | with_reducible apply Pk.t)); exact rfl) | ((with_reducible apply t_st); exact rfl; exact rfl; exact rfl; (repeat (first | with_reducible exact Pk.h | with_reducible apply Pk.t)); exact rfl; exact rfl; exact Nat.le_of_ble_eq_true rfl; exact rfl; (repeat (first | apply rk_nil | (apply rk_skip; exact rfl) | (apply rk_ld; exact rfl; (repeat (first | with_reducible exact Pk.h | with_reducible apply Pk.t)); exact rfl)))) | ((with_reducible apply t_nx F10.k); exact rfl; exact rfl) | with_reducible apply m_seq | (with_reducible apply m_reg mix) | with_reducible apply m_block | ((with_reducible apply m_ct); exact rfl) | ((with_reducible apply m_cf); exact rfl) | ((with_reducible apply m_skn); exact rfl) | ((with_reducible apply m_exn); exact rfl)))
  rcases hlook.symm with ⟨⟨x, hx, hxt⟩, hby⟩ | ⟨hno, hby⟩
  · have hmem := ent_mem hx
    rw [hxt] at hmem
    obtain ⟨rfl, rfl⟩ := c2 (by simp [hby])
    refine t_r (v := .pointer (some ⟨x.b, 0, none⟩)) rfl (look_rv ktx und59 (zrun und71) rfl rfl hko (by repeat (first | with_reducible exact Pk.h | with_reducible apply Pk.t)) (.inr hmem)) ?_
    (repeat (first | ((with_reducible apply t_run); exact rfl) | ((with_reducible apply t_p); exact rfl; exact rfl) | ((with_reducible apply t_gr); exact rfl) | ((with_reducible apply t_ge); exact rfl) | ((with_reducible apply t_ld); exact rfl; exact rfl; (repeat (first | with_reducible exact Pk.h | with_reducible apply Pk.t)); exact rfl) | ((with_reducible apply t_st); exact rfl; exact rfl; exact rfl; (repeat (first | with_reducible exact Pk.h | with_reducible apply Pk.t)); exact rfl; exact rfl; exact Nat.le_of_ble_eq_true rfl; exact rfl; (repeat (first | apply rk_nil | (apply rk_skip; exact rfl) | (apply rk_ld; exact rfl; (repeat (first | with_reducible exact Pk.h | with_reducible apply Pk.t)); exact rfl)))) | ((with_reducible apply t_nx F10.k); exact rfl; exact rfl) | with_reducible apply m_seq | (with_reducible apply m_reg mix) | with_reducible apply m_block | ((with_reducible apply m_ct); exact rfl) | ((with_reducible apply m_cf); exact rfl) | ((with_reducible apply m_skn); exact rfl) | ((with_reducible apply m_exn); exact rfl)))
    refine en_mktab (t := t) (hb := hb) (m := m) (hs := hs) (keys := keys) (by repeat (first | apply Sx.nil | apply Pk.h | apply Sx.cons | apply Pk.t)) ?_
    refine en_tabl I (by repeat (first | with_reducible exact Pk.h | with_reducible apply Pk.t)) ?_
    apply m_ret
    · rfl
    · (repeat (first | apply rs_nil | (apply rs_tmp; exact rfl) | (apply rs_cell; exact rfl; (repeat (first | with_reducible exact Pk.h | with_reducible apply Pk.t)); exact rfl)))
    · exact ⟨rfl, rfl⟩
    · exact (by repeat (first | apply Sx.nil | apply Pk.h | apply Sx.cons | apply Pk.t))
  refine t_r (v := .pointer none) rfl (look_rv ktx und59 (zrun und71) rfl rfl hko (by repeat (first | with_reducible exact Pk.h | with_reducible apply Pk.t)) (.inl ⟨hno, rfl⟩)) ?_
  (repeat (first | ((with_reducible apply t_run); exact rfl) | ((with_reducible apply t_p); exact rfl; exact rfl) | ((with_reducible apply t_gr); exact rfl) | ((with_reducible apply t_ge); exact rfl) | ((with_reducible apply t_ld); exact rfl; exact rfl; (repeat (first | with_reducible exact Pk.h | with_reducible apply Pk.t)); exact rfl) | ((with_reducible apply t_st); exact rfl; exact rfl; exact rfl; (repeat (first | with_reducible exact Pk.h | with_reducible apply Pk.t)); exact rfl; exact rfl; exact Nat.le_of_ble_eq_true rfl; exact rfl; (repeat (first | apply rk_nil | (apply rk_skip; exact rfl) | (apply rk_ld; exact rfl; (repeat (first | with_reducible exact Pk.h | with_reducible apply Pk.t)); exact rfl)))) | ((with_reducible apply t_nx F10.k); exact rfl; exact rfl) | with_reducible apply m_seq | (with_reducible apply m_reg mix) | with_reducible apply m_block | ((with_reducible apply m_ct); exact rfl) | ((with_reducible apply m_cf); exact rfl) | ((with_reducible apply m_skn); exact rfl) | ((with_reducible apply m_exn); exact rfl)))
  refine en_mktab (t := t) (hb := hb) (m := m) (hs := hs) (keys := keys) (by repeat (first | apply Sx.nil | apply Pk.h | apply Sx.cons | apply Pk.t)) ?_
  refine en_toone (ys := [Cl b6 34 [.pointer (some ⟨t, 0, none⟩)], TabA t hs keys]) (by repeat (first | apply Sx.nil | apply Pk.h | apply Sx.cons | apply Pk.t)) ?_
  refine t_cl rfl rfl (ContainsFunc_spec R (Sep [Cl b6 34 [.pointer (some ⟨t, 0, none⟩)], TabA t hs keys]) _ ws 29 (.pointer (some ⟨b6, 0, none⟩)) (busyP keys) hv hl bd29 (fun w _ => busy_spec t b6 hs keys w)) (by repeat (first | apply Sx.nil | apply Pk.h | apply Sx.cons | apply Pk.t)) ?_
  rintro _ _ ⟨rfl, rfl⟩
  refine ⟨?_, ?_⟩ <;> (try dsimp only [List.cons_append, List.nil_append])
  · (repeat (first | apply rk_nil | (apply rk_skip; exact rfl) | (apply rk_ld; exact rfl; (repeat (first | with_reducible exact Pk.h | with_reducible apply Pk.t)); exact rfl)))
  refine en_one (by repeat (first | with_reducible exact Pk.h | with_reducible apply Pk.t)) ?_
  dsimp only [List.cons_append, List.nil_append]
  generalize ws.any (busyP keys) = any1 at hbd c2 c3 ⊢
  (repeat (first | ((with_reducible apply t_run); exact rfl) | ((with_reducible apply t_p); exact rfl; exact rfl) | ((with_reducible apply t_gr); exact rfl) | ((with_reducible apply t_ge); exact rfl) | ((with_reducible apply t_ld); exact rfl; exact rfl; (repeat (first | with_reducible exact Pk.h | with_reducible apply Pk.t)); exact rfl) | ((with_reducible apply t_st); exact rfl; exact rfl; exact rfl; (repeat (first | with_reducible exact Pk.h | with_reducible apply Pk.t)); exact rfl; exact rfl; exact Nat.le_of_ble_eq_true rfl; exact rfl; (repeat (first | apply rk_nil | (apply rk_skip; exact rfl) | (apply rk_ld; exact rfl; (repeat (first | with_reducible exact Pk.h | with_reducible apply Pk.t)); exact rfl)))) | ((with_reducible apply t_nx F10.k); exact rfl; exact rfl) | with_reducible apply m_seq | (with_reducible apply m_reg mix) | with_reducible apply m_block | ((with_reducible apply m_ct); exact rfl) | ((with_reducible apply m_cf); exact rfl) | ((with_reducible apply m_skn); exact rfl) | ((with_reducible apply m_exn); exact rfl)))
  cases any1 with
  | true =>
    obtain ⟨rfl, rfl⟩ := c2 (by simp)
    (repeat (first | ((with_reducible apply t_run); exact rfl) | ((with_reducible apply t_p); exact rfl; exact rfl) | ((with_reducible apply t_gr); exact rfl) | ((with_reducible apply t_ge); exact rfl) | ((with_reducible apply t_ld); exact rfl; exact rfl; (repeat (first | with_reducible exact Pk.h | with_reducible apply Pk.t)); exact rfl) | ((with_reducible apply t_st); exact rfl; exact rfl; exact rfl; (repeat (first | with_reducible exact Pk.h | with_reducible apply Pk.t)); exact rfl; exact rfl; exact Nat.le_of_ble_eq_true rfl; exact rfl; (repeat (first | apply rk_nil | (apply rk_skip; exact rfl) | (apply rk_ld; exact rfl; (repeat (first | with_reducible exact Pk.h | with_reducible apply Pk.t)); exact rfl)))) | ((with_reducible apply t_nx F10.k); exact rfl; exact rfl) | with_reducible apply m_seq | (with_reducible apply m_reg mix) | with_reducible apply m_block | ((with_reducible apply m_ct); exact rfl) | ((with_reducible apply m_cf); exact rfl) | ((with_reducible apply m_skn); exact rfl) | ((with_reducible apply m_exn); exact rfl)))
    refine en_tabl I (by repeat (first | with_reducible exact Pk.h | with_reducible apply Pk.t)) ?_
    apply m_ret
    · rfl
    · (repeat (first | apply rs_nil | (apply rs_tmp; exact rfl) | (apply rs_cell; exact rfl; (repeat (first | with_reducible exact Pk.h | with_reducible apply Pk.t)); exact rfl)))
    · exact ⟨rfl, rfl⟩
    · exact (by repeat (first | apply Sx.nil | apply Pk.h | apply Sx.cons | apply Pk.t))
  | false =>
  obtain ⟨rfl, rfl⟩ := c3 (by simp [hby])
  clear c2 c3
  (repeat (first | ((with_reducible apply t_run); exact rfl) | ((with_reducible apply t_p); exact rfl; exact rfl) | ((with_reducible apply t_gr); exact rfl) | ((with_reducible apply t_ge); exact rfl) | ((with_reducible apply t_ld); exact rfl; exact rfl; (repeat (first | with_reducible exact Pk.h | with_reducible apply Pk.t)); exact rfl) | ((with_reducible apply t_st); exact rfl; exact rfl; exact rfl; (repeat (first | with_reducible exact Pk.h | with_reducible apply Pk.t)); exact rfl; exact rfl; exact Nat.le_of_ble_eq_true rfl; exact rfl; (repeat (first | apply rk_nil | (apply rk_skip; exact rfl) | (apply rk_ld; exact rfl; (repeat (first | with_reducible exact Pk.h | with_reducible apply Pk.t)); exact rfl)))) | ((with_reducible apply t_nx F10.k); exact rfl; exact rfl) | with_reducible apply m_seq | (with_reducible apply m_reg mix) | with_reducible apply m_block | ((with_reducible apply m_ct); exact rfl) | ((with_reducible apply m_cf); exact rfl) | ((with_reducible apply m_skn); exact rfl) | ((with_reducible apply m_exn); exact rfl)))
  refine t_cl rfl rfl (Clone_spec R _ ws hv (List.length_pos_iff.2 h0) (by omega)) (by repeat (first | apply Sx.nil | apply Pk.h | apply Sx.cons | apply Pk.t)) ?_
  rintro _ _ rfl
  refine ⟨?_, ?_⟩ <;> (try dsimp only [List.cons_append, List.nil_append])
  · (repeat (first | apply rk_nil | (apply rk_skip; exact rfl) | (apply rk_ld; exact rfl; (repeat (first | with_reducible exact Pk.h | with_reducible apply Pk.t)); exact rfl)))
  rename_i sv
  refine en_ows (by repeat (first | with_reducible exact Pk.h | with_reducible apply Pk.t)) fun sa sc he => ?_
  subst he
  (repeat (first | ((with_reducible apply t_run); exact rfl) | ((with_reducible apply t_p); exact rfl; exact rfl) | ((with_reducible apply t_gr); exact rfl) | ((with_reducible apply t_ge); exact rfl) | ((with_reducible apply t_ld); exact rfl; exact rfl; (repeat (first | with_reducible exact Pk.h | with_reducible apply Pk.t)); exact rfl) | ((with_reducible apply t_st); exact rfl; exact rfl; exact rfl; (repeat (first | with_reducible exact Pk.h | with_reducible apply Pk.t)); exact rfl; exact rfl; exact Nat.le_of_ble_eq_true rfl; exact rfl; (repeat (first | apply rk_nil | (apply rk_skip; exact rfl) | (apply rk_ld; exact rfl; (repeat (first | with_reducible exact Pk.h | with_reducible apply Pk.t)); exact rfl)))) | ((with_reducible apply t_nx F10.k); exact rfl; exact rfl) | with_reducible apply m_seq | (with_reducible apply m_reg mix) | with_reducible apply m_block | ((with_reducible apply m_ct); exact rfl) | ((with_reducible apply m_cf); exact rfl) | ((with_reducible apply m_skn); exact rfl) | ((with_reducible apply m_exn); exact rfl)))
  refine t_bx rfl rfl rfl fun bh => ⟨(by (repeat (first | apply rk_nil | (apply rk_skip; exact rfl) | (apply rk_ld; exact rfl; (repeat (first | with_reducible exact Pk.h | with_reducible apply Pk.t)); exact rfl)))), ?_⟩
  try dsimp only [List.cons_append, List.nil_append]
  (repeat (first | ((with_reducible apply t_run); exact rfl) | ((with_reducible apply t_p); exact rfl; exact rfl) | ((with_reducible apply t_gr); exact rfl) | ((with_reducible apply t_ge); exact rfl) | ((with_reducible apply t_ld); exact rfl; exact rfl; (repeat (first | with_reducible exact Pk.h | with_reducible apply Pk.t)); exact rfl) | ((with_reducible apply t_st); exact rfl; exact rfl; exact rfl; (repeat (first | with_reducible exact Pk.h | with_reducible apply Pk.t)); exact rfl; exact rfl; exact Nat.le_of_ble_eq_true rfl; exact rfl; (repeat (first | apply rk_nil | (apply rk_skip; exact rfl) | (apply rk_ld; exact rfl; (repeat (first | with_reducible exact Pk.h | with_reducible apply Pk.t)); exact rfl)))) | ((with_reducible apply t_nx F10.k); exact rfl; exact rfl) | with_reducible apply m_seq | (with_reducible apply m_reg mix) | with_reducible apply m_block | ((with_reducible apply m_ct); exact rfl) | ((with_reducible apply m_cf); exact rfl) | ((with_reducible apply m_skn); exact rfl) | ((with_reducible apply m_exn); exact rfl)))
  refine t_cl rfl rfl (Sort_spec (.slice sa ws.length sc) ws h0 (by omega)) (by repeat (first | apply Sx.nil | apply Pk.h | apply Sx.cons | apply Pk.t)) ?_
  rintro _ _ ⟨rfl, ws', hp, hsrt, rfl⟩
  refine ⟨?_, ?_⟩ <;> (try dsimp only [List.cons_append, List.nil_append])
  · (repeat (first | apply rk_nil | (apply rk_skip; exact rfl) | (apply rk_ld; exact rfl; (repeat (first | with_reducible exact Pk.h | with_reducible apply Pk.t)); exact rfl)))
  refine en_tab (by repeat (first | with_reducible exact Pk.h | with_reducible apply Pk.t)) fun hb2 m2 => ?_
  (repeat (first | ((with_reducible apply t_run); exact rfl) | ((with_reducible apply t_p); exact rfl; exact rfl) | ((with_reducible apply t_gr); exact rfl) | ((with_reducible apply t_ge); exact rfl) | ((with_reducible apply t_ld); exact rfl; exact rfl; (repeat (first | with_reducible exact Pk.h | with_reducible apply Pk.t)); exact rfl) | ((with_reducible apply t_st); exact rfl; exact rfl; exact rfl; (repeat (first | with_reducible exact Pk.h | with_reducible apply Pk.t)); exact rfl; exact rfl; exact Nat.le_of_ble_eq_true rfl; exact rfl; (repeat (first | apply rk_nil | (apply rk_skip; exact rfl) | (apply rk_ld; exact rfl; (repeat (first | with_reducible exact Pk.h | with_reducible apply Pk.t)); exact rfl)))) | ((with_reducible apply t_nx F10.k); exact rfl; exact rfl) | with_reducible apply m_seq | (with_reducible apply m_reg mix) | with_reducible apply m_block | ((with_reducible apply m_ct); exact rfl) | ((with_reducible apply m_cf); exact rfl) | ((with_reducible apply m_skn); exact rfl) | ((with_reducible apply m_exn); exact rfl)))
  refine t_ups ktx und59 rfl rfl rfl rfl hko (by repeat (first | with_reducible exact Pk.h | with_reducible apply Pk.t)) hno ⟨(by (repeat (first | apply rk_nil | (apply rk_skip; exact rfl) | (apply rk_ld; exact rfl; (repeat (first | with_reducible exact Pk.h | with_reducible apply Pk.t)); exact rfl)))), ?_⟩
  have hx : Inv (hs ++ [⟨⟨tc, tn⟩, bh, ⟨⟨sp, sl⟩, ⟨mp, ml⟩, pr⟩, ws', .slice sa ws.length sc⟩]) (insW ⟨tc, tn⟩ keys ws) (layF ⟨tc, tn⟩ ⟨⟨sp, sl⟩, ⟨mp, ml⟩, pr⟩ L ws) := by
    refine I.lay hok hmin h0 h16 (by simpa using hby) ?_ hdist hp hsrt
    intro w hw y hy he
    have h1 := (List.any_eq_false (p := fun w : Wr => (ofL L w.key).isSome)).1 hbd.symm w hw
    rw [← he, of_some I.srt hy rfl] at h1
    simp at h1
  refine en_x (Cl bh 75 (hdC ⟨⟨sp, sl⟩, ⟨mp, ml⟩, pr⟩ (.slice sa ws.length sc))) (x := Cl bh 75 _) (by repeat (first | with_reducible exact Pk.h | with_reducible apply Pk.t)) (by rfl) ?_
  refine en_x (OwS 39 3 (.slice sa ws.length sc) ws'.length (wcs ws').flatten) (x := OwS 39 3 (.slice sa ws.length sc) ws.length (wcs ws').flatten) (by repeat (first | with_reducible exact Pk.h | with_reducible apply Pk.t)) (by rw [hp.length_eq]) ?_
  refine en_x (HsA (hs ++ [])) (x := HsA hs) (by repeat (first | with_reducible exact Pk.h | with_reducible apply Pk.t)) (by rw [List.append_nil]) ?_
  refine en_put (x := ⟨⟨tc, tn⟩, bh, ⟨⟨sp, sl⟩, ⟨mp, ml⟩, pr⟩, ws', .slice sa ws.length sc⟩) (l1 := hs) (l2 := []) (by repeat (first | apply Sx.nil | apply Pk.h | apply Sx.cons | apply Pk.t)) ?_
  refine en_x (MpO Try.prog 25 hb2 (entL (hs ++ [⟨⟨tc, tn⟩, bh, ⟨⟨sp, sl⟩, ⟨mp, ml⟩, pr⟩, ws', .slice sa ws.length sc⟩]))) (x := MpO Try.prog 25 hb2 _) (by repeat (first | with_reducible exact Pk.h | with_reducible apply Pk.t)) (by simp [entL, Tx.V]; rfl) ?_
  generalize hs ++ [(⟨⟨tc, tn⟩, bh, ⟨⟨sp, sl⟩, ⟨mp, ml⟩, pr⟩, ws', .slice sa ws.length sc⟩ : Hold)] = hs' at hx ⊢
  have hkl := insW_len ⟨tc, tn⟩
  clear I hbd hp hsrt hlook hno
  (repeat (first | ((with_reducible apply t_run); exact rfl) | ((with_reducible apply t_p); exact rfl; exact rfl) | ((with_reducible apply t_gr); exact rfl) | ((with_reducible apply t_ge); exact rfl) | ((with_reducible apply t_ld); exact rfl; exact rfl; (repeat (first | with_reducible exact Pk.h | with_reducible apply Pk.t)); exact rfl) | ((with_reducible apply t_st); exact rfl; exact rfl; exact rfl; (repeat (first | with_reducible exact Pk.h | with_reducible apply Pk.t)); exact rfl; exact rfl; exact Nat.le_of_ble_eq_true rfl; exact rfl; (repeat (first | apply rk_nil | (apply rk_skip; exact rfl) | (apply rk_ld; exact rfl; (repeat (first | with_reducible exact Pk.h | with_reducible apply Pk.t)); exact rfl)))) | ((with_reducible apply t_nx F10.k); exact rfl; exact rfl) | with_reducible apply m_seq | (with_reducible apply m_reg mix) | with_reducible apply m_block | ((with_reducible apply m_ct); exact rfl) | ((with_reducible apply m_cf); exact rfl) | ((with_reducible apply m_skn); exact rfl) | ((with_reducible apply m_exn); exact rfl)))
  refine m_lp (α := Nat) (fun i => [(72, .int .i64 (i : Nat)), (70, .slice a ws.length c), (71, .int .i64 (ws.length : Nat)), (6, .pointer (some ⟨b6, 0, none⟩)), (7, .pointer (some ⟨b7, 0, none⟩))])
    (fun i => [MpA m2 (insW ⟨tc, tn⟩ keys (ws.take i)), Cl t 65 [.map (some hb2), .pointer (some ⟨m2, 0, none⟩)], MpO Try.prog 25 hb2 (entL hs'), HsA hs', R, Cl b6 34 [.pointer (some ⟨t, 0, none⟩)], Cl b7 25 [.int .u32 tc, .int .u32 tn], X])
    (fun i => i ≤ ws.length) (fun i => ws.length - i) ?_ 0 (by simp) [72, 70, 71, 6, 7] rfl (by repeat (first | apply Sx.nil | apply Pk.h | apply Sx.cons | apply Pk.t))
  rintro i hi
  (repeat (first | ((with_reducible apply t_run); exact rfl) | ((with_reducible apply t_p); exact rfl; exact rfl) | ((with_reducible apply t_gr); exact rfl) | ((with_reducible apply t_ge); exact rfl) | ((with_reducible apply t_ld); exact rfl; exact rfl; (repeat (first | with_reducible exact Pk.h | with_reducible apply Pk.t)); exact rfl) | ((with_reducible apply t_st); exact rfl; exact rfl; exact rfl; (repeat (first | with_reducible exact Pk.h | with_reducible apply Pk.t)); exact rfl; exact rfl; exact Nat.le_of_ble_eq_true rfl; exact rfl; (repeat (first | apply rk_nil | (apply rk_skip; exact rfl) | (apply rk_ld; exact rfl; (repeat (first | with_reducible exact Pk.h | with_reducible apply Pk.t)); exact rfl)))) | ((with_reducible apply t_nx F10.k); exact rfl; exact rfl) | with_reducible apply m_seq | (with_reducible apply m_reg mix) | with_reducible apply m_block | ((with_reducible apply m_ct); exact rfl) | ((with_reducible apply m_cf); exact rfl) | ((with_reducible apply m_skn); exact rfl) | ((with_reducible apply m_exn); exact rfl)))
  refine m_cond rfl (fun q => ?_) (fun q => ?_)
  · have hi' : i < ws.length := by have := of_decide_eq_true q; omega
    obtain ⟨b, o, rfl, _⟩ := hv.ptr (by rw [hlen]; omega)
    (repeat (first | ((with_reducible apply t_run); exact rfl) | ((with_reducible apply t_p); exact rfl; exact rfl) | ((with_reducible apply t_gr); exact rfl) | ((with_reducible apply t_ge); exact rfl) | ((with_reducible apply t_ld); exact rfl; exact rfl; (repeat (first | with_reducible exact Pk.h | with_reducible apply Pk.t)); exact rfl) | ((with_reducible apply t_st); exact rfl; exact rfl; exact rfl; (repeat (first | with_reducible exact Pk.h | with_reducible apply Pk.t)); exact rfl; exact rfl; exact Nat.le_of_ble_eq_true rfl; exact rfl; (repeat (first | apply rk_nil | (apply rk_skip; exact rfl) | (apply rk_ld; exact rfl; (repeat (first | with_reducible exact Pk.h | with_reducible apply Pk.t)); exact rfl)))) | ((with_reducible apply t_nx F10.k); exact rfl; exact rfl) | with_reducible apply m_seq | (with_reducible apply m_reg mix) | with_reducible apply m_block | ((with_reducible apply m_ct); exact rfl) | ((with_reducible apply m_cf); exact rfl) | ((with_reducible apply m_skn); exact rfl) | ((with_reducible apply m_exn); exact rfl)))
    refine t_ia i rfl rfl rfl hi' ?_
    refine t_la rfl rfl (R := R) (by repeat (first | with_reducible exact Pk.h | with_reducible apply Pk.t)) (hv.at (by decide) (i := i) (x := ws[i].cells) (by simp [wcs, hi'])) ?_
    simp only [Wr.cells]
    refine t_al rfl fun b16 => ⟨(by (repeat (first | apply rk_nil | (apply rk_skip; exact rfl) | (apply rk_ld; exact rfl; (repeat (first | with_reducible exact Pk.h | with_reducible apply Pk.t)); exact rfl)))), ?_⟩
    have hins : insW ⟨tc, tn⟩ keys (ws.take (i + 1)) = insK (insW ⟨tc, tn⟩ keys (ws.take i)) ws[i].key ⟨tc, tn, ws[i].key, ws[i].val, ws[i].dead⟩ := by
      rw [List.take_succ_eq_append_getElem hi', insW, List.foldl_append]; rfl
    have hkl2 := hkl (ws.take i) keys
    rw [List.length_take] at hkl2
    (repeat (first | ((with_reducible apply t_run); exact rfl) | ((with_reducible apply t_p); exact rfl; exact rfl) | ((with_reducible apply t_gr); exact rfl) | ((with_reducible apply t_ge); exact rfl) | ((with_reducible apply t_ld); exact rfl; exact rfl; (repeat (first | with_reducible exact Pk.h | with_reducible apply Pk.t)); exact rfl) | ((with_reducible apply t_st); exact rfl; exact rfl; exact rfl; (repeat (first | with_reducible exact Pk.h | with_reducible apply Pk.t)); exact rfl; exact rfl; exact Nat.le_of_ble_eq_true rfl; exact rfl; (repeat (first | apply rk_nil | (apply rk_skip; exact rfl) | (apply rk_ld; exact rfl; (repeat (first | with_reducible exact Pk.h | with_reducible apply Pk.t)); exact rfl)))) | ((with_reducible apply t_nx F10.k); exact rfl; exact rfl) | with_reducible apply m_seq | (with_reducible apply m_reg mix) | with_reducible apply m_block | ((with_reducible apply m_ct); exact rfl) | ((with_reducible apply m_cf); exact rfl) | ((with_reducible apply m_skn); exact rfl) | ((with_reducible apply m_exn); exact rfl)))
    refine t_cl rfl rfl (Set_spec m2 ws[i].key ⟨tc, tn, ws[i].key, ws[i].val, ws[i].dead⟩ (insW ⟨tc, tn⟩ keys (ws.take i)) (by omega)) (by repeat (first | apply Sx.nil | apply Pk.h | apply Sx.cons | apply Pk.t)) ?_
    rintro _ _ ⟨rfl, rfl⟩
    refine ⟨?_, ?_⟩ <;> (try dsimp only [List.cons_append, List.nil_append])
    · (repeat (first | apply rk_nil | (apply rk_skip; exact rfl) | (apply rk_ld; exact rfl; (repeat (first | with_reducible exact Pk.h | with_reducible apply Pk.t)); exact rfl)))
    rw [← hins]
    (repeat (first | ((with_reducible apply t_run); exact rfl) | ((with_reducible apply t_p); exact rfl; exact rfl) | ((with_reducible apply t_gr); exact rfl) | ((with_reducible apply t_ge); exact rfl) | ((with_reducible apply t_ld); exact rfl; exact rfl; (repeat (first | with_reducible exact Pk.h | with_reducible apply Pk.t)); exact rfl) | ((with_reducible apply t_st); exact rfl; exact rfl; exact rfl; (repeat (first | with_reducible exact Pk.h | with_reducible apply Pk.t)); exact rfl; exact rfl; exact Nat.le_of_ble_eq_true rfl; exact rfl; (repeat (first | apply rk_nil | (apply rk_skip; exact rfl) | (apply rk_ld; exact rfl; (repeat (first | with_reducible exact Pk.h | with_reducible apply Pk.t)); exact rfl)))) | ((with_reducible apply t_nx F10.k); exact rfl; exact rfl) | with_reducible apply m_seq | (with_reducible apply m_reg mix) | with_reducible apply m_block | ((with_reducible apply m_ct); exact rfl) | ((with_reducible apply m_cf); exact rfl) | ((with_reducible apply m_skn); exact rfl) | ((with_reducible apply m_exn); exact rfl)))
    refine t_meet rfl (i + 1) ⟨hi', by omega⟩ [72, 70, 71, 6, 7] ?_ (by repeat (first | apply Sx.nil | apply Pk.h | apply Sx.cons | apply Pk.t))
    rw [wrap_nat (by omega)]
    rfl
  · have hi' : i = ws.length := by have := of_decide_eq_false q; omega
    (repeat (first | ((with_reducible apply t_run); exact rfl) | ((with_reducible apply t_p); exact rfl; exact rfl) | ((with_reducible apply t_gr); exact rfl) | ((with_reducible apply t_ge); exact rfl) | ((with_reducible apply t_ld); exact rfl; exact rfl; (repeat (first | with_reducible exact Pk.h | with_reducible apply Pk.t)); exact rfl) | ((with_reducible apply t_st); exact rfl; exact rfl; exact rfl; (repeat (first | with_reducible exact Pk.h | with_reducible apply Pk.t)); exact rfl; exact rfl; exact Nat.le_of_ble_eq_true rfl; exact rfl; (repeat (first | apply rk_nil | (apply rk_skip; exact rfl) | (apply rk_ld; exact rfl; (repeat (first | with_reducible exact Pk.h | with_reducible apply Pk.t)); exact rfl)))) | ((with_reducible apply t_nx F10.k); exact rfl; exact rfl) | with_reducible apply m_seq | (with_reducible apply m_reg mix) | with_reducible apply m_block | ((with_reducible apply m_ct); exact rfl) | ((with_reducible apply m_cf); exact rfl) | ((with_reducible apply m_skn); exact rfl) | ((with_reducible apply m_exn); exact rfl)))
    subst hi'
    rw [List.take_length]
    refine en_mktab (t := t) (hb := hb2) (m := m2) (hs := hs') (keys := insW ⟨tc, tn⟩ keys ws) (by repeat (first | apply Sx.nil | apply Pk.h | apply Sx.cons | apply Pk.t)) ?_
    refine en_tabl hx (by repeat (first | with_reducible exact Pk.h | with_reducible apply Pk.t)) ?_
    apply m_ret
    · rfl
    · (repeat (first | apply rs_nil | (apply rs_tmp; exact rfl) | (apply rs_cell; exact rfl; (repeat (first | with_reducible exact Pk.h | with_reducible apply Pk.t)); exact rfl)))
    · exact ⟨rfl, rfl⟩
    · exact (by repeat (first | apply Sx.nil | apply Pk.h | apply Sx.cons | apply Pk.t))
end Go.Proofs.Ythcbefkgfhokoaa
