import Derived.Test.YthcbefkgfhokoaaBD
/- A transaction's intents. -/
namespace Go.Proofs.Ythcbefkgfhokoaa
open Go Go.Dv
set_option maxRecDepth 100000
attribute [local irreducible] HTh HM En Fsp TrA Cl MpA OwS RdS MpO TabA HsA

theorem sl42 : slI Try.prog 42 = some (41, 10, 96, zIn.cells) := by kernel_rfl
def inL (x : Hold) : List In := x.ws.map fun w => ⟨x.tx, x.hd.start, x.hd.min, x.hd.prim, w⟩
def ics (l : List In) : List (List Value) := l.map In.cells
theorem ics_step {x : Hold} {i : Nat} (h : i < x.ws.length) : (ics ((inL x).take (i + 1))).flatten = (ics ((inL x).take i)).flatten ++ (In.mk x.tx x.hd.start x.hd.min x.hd.prim x.ws[i]).cells := by
  have h2 : i < (inL x).length := by simpa [inL] using h
  rw [List.take_succ_eq_append_getElem h2]
  simp [ics, inL]
theorem txV_ne {a b : Tx} (h : a ≠ b) : a.V ≠ b.V := by
  intro he
  apply h
  obtain ⟨c, n⟩ := a
  obtain ⟨c', n'⟩ := b
  simp [Tx.V] at he
  simp [he]
theorem ent_no {hs : List Hold} {tx : Tx} (h : ∀ x ∈ hs, x.tx ≠ tx) : ∀ y ∈ entL hs, y.1 ≠ tx.V := by
  rintro y hy
  obtain ⟨x, hx, rfl⟩ := List.mem_map.1 hy
  exact txV_ne (h x hx)

theorem By_none (t : Nat) (hs : List Hold) (keys : KL) (tx : Tx) (hok : tx.ok) (hn : ∀ x ∈ hs, x.tx ≠ tx) :
    Fsp Try.prog 13 [.pointer (some ⟨t, 0, none⟩), tx.V] [TabA t hs keys] fun u aa' => u = .slice none 0 0 ∧ aa' = [TabA t hs keys, OwS 41 10 u 0 []] := by
  have hko := keyOk25 hok
  have hno := ent_no hn
  obtain ⟨c, n⟩ := tx
  refine spec_of F13.ok rfl fun gl X => ?_
  dsimp only [List.cons_append, List.nil_append]
  simp only [Tx.V] at hko hno ⊢
  refine en_tab (by repeat (first | with_reducible exact Pk.h | with_reducible apply Pk.t)) fun hb m => ?_
  (repeat (first | ((with_reducible apply t_run); exact rfl) | ((with_reducible apply t_p); exact rfl; exact rfl) | ((with_reducible apply t_gr); exact rfl) | ((with_reducible apply t_ge); exact rfl) | ((with_reducible apply t_ld); exact rfl; exact rfl; (repeat (first | with_reducible exact Pk.h | with_reducible apply Pk.t)); exact rfl) | ((with_reducible apply t_st); exact rfl; exact rfl; exact rfl; (repeat (first | with_reducible exact Pk.h | with_reducible apply Pk.t)); exact rfl; exact rfl; exact Nat.le_of_ble_eq_true rfl; exact rfl; (repeat (first | apply rk_nil | (apply rk_skip; exact rfl) | (apply rk_ld; exact rfl; (repeat (first | with_reducible exact Pk.h | with_reducible apply Pk.t)); exact rfl)))) | ((with_reducible apply t_nx F13.k); exact rfl; exact rfl) | with_reducible apply m_seq | (with_reducible apply m_reg mix) | with_reducible apply m_block | ((with_reducible apply m_ct); exact rfl) | ((with_reducible apply m_cf); exact rfl) | ((with_reducible apply m_skn); exact rfl) | ((with_reducible apply m_exn); exact rfl)))
  refine t_bx rfl rfl rfl fun b3 => ⟨(by (repeat (first | apply rk_nil | (apply rk_skip; exact rfl) | (apply rk_ld; exact rfl; (repeat (first | with_reducible exact Pk.h | with_reducible apply Pk.t)); exact rfl)))), ?_⟩
  try dsimp only [List.cons_append, List.nil_append]
  (repeat (first | ((with_reducible apply t_run); exact rfl) | ((with_reducible apply t_p); exact rfl; exact rfl) | ((with_reducible apply t_gr); exact rfl) | ((with_reducible apply t_ge); exact rfl) | ((with_reducible apply t_ld); exact rfl; exact rfl; (repeat (first | with_reducible exact Pk.h | with_reducible apply Pk.t)); exact rfl) | ((with_reducible apply t_st); exact rfl; exact rfl; exact rfl; (repeat (first | with_reducible exact Pk.h | with_reducible apply Pk.t)); exact rfl; exact rfl; exact Nat.le_of_ble_eq_true rfl; exact rfl; (repeat (first | apply rk_nil | (apply rk_skip; exact rfl) | (apply rk_ld; exact rfl; (repeat (first | with_reducible exact Pk.h | with_reducible apply Pk.t)); exact rfl)))) | ((with_reducible apply t_nx F13.k); exact rfl; exact rfl) | with_reducible apply m_seq | (with_reducible apply m_reg mix) | with_reducible apply m_block | ((with_reducible apply m_ct); exact rfl) | ((with_reducible apply m_cf); exact rfl) | ((with_reducible apply m_skn); exact rfl) | ((with_reducible apply m_exn); exact rfl)))
  refine t_r (v := .pointer none) rfl (look_rv ktx und59 (zrun und71) rfl rfl hko (by repeat (first | with_reducible exact Pk.h | with_reducible apply Pk.t)) (.inl ⟨hno, rfl⟩)) ?_
  (repeat (first | ((with_reducible apply t_run); exact rfl) | ((with_reducible apply t_p); exact rfl; exact rfl) | ((with_reducible apply t_gr); exact rfl) | ((with_reducible apply t_ge); exact rfl) | ((with_reducible apply t_ld); exact rfl; exact rfl; (repeat (first | with_reducible exact Pk.h | with_reducible apply Pk.t)); exact rfl) | ((with_reducible apply t_st); exact rfl; exact rfl; exact rfl; (repeat (first | with_reducible exact Pk.h | with_reducible apply Pk.t)); exact rfl; exact rfl; exact Nat.le_of_ble_eq_true rfl; exact rfl; (repeat (first | apply rk_nil | (apply rk_skip; exact rfl) | (apply rk_ld; exact rfl; (repeat (first | with_reducible exact Pk.h | with_reducible apply Pk.t)); exact rfl)))) | ((with_reducible apply t_nx F13.k); exact rfl; exact rfl) | with_reducible apply m_seq | (with_reducible apply m_reg mix) | with_reducible apply m_block | ((with_reducible apply m_ct); exact rfl) | ((with_reducible apply m_cf); exact rfl) | ((with_reducible apply m_skn); exact rfl) | ((with_reducible apply m_exn); exact rfl)))
  refine en_own (E := 41) (kz := 10) ?_
  refine en_mktab (t := t) (hb := hb) (m := m) (hs := hs) (keys := keys) (by repeat (first | apply Sx.nil | apply Pk.h | apply Sx.cons | apply Pk.t)) ?_
  apply m_ret
  · rfl
  · (repeat (first | apply rs_nil | (apply rs_tmp; exact rfl) | (apply rs_cell; exact rfl; (repeat (first | with_reducible exact Pk.h | with_reducible apply Pk.t)); exact rfl)))
  · exact ⟨rfl, rfl⟩
  · exact (by repeat (first | apply Sx.nil | apply Pk.h | apply Sx.cons | apply Pk.t))

theorem By_some (t : Nat) (hs : List Hold) (keys : KL) (x : Hold) (hx : x ∈ hs) (hok : x.tx.ok) (h0 : 0 < x.ws.length) (hl : x.ws.length ≤ 1073741824) :
    Fsp Try.prog 13 [.pointer (some ⟨t, 0, none⟩), x.tx.V] [TabA t hs keys] fun u aa' => aa' = [TabA t hs keys, OwS 41 10 u (inL x).length (ics (inL x)).flatten] := by
  have hko := keyOk25 hok
  have hmem := ent_mem hx
  obtain ⟨l1, l2, rfl⟩ := List.append_of_mem hx
  have hil : (inL x).length = x.ws.length := by simp [inL]
  refine spec_of F13.ok rfl fun gl X => ?_
  dsimp only [List.cons_append, List.nil_append]
  refine en_tab (by repeat (first | with_reducible exact Pk.h | with_reducible apply Pk.t)) fun hb m => ?_
  refine en_pick (by repeat (first | with_reducible exact Pk.h | with_reducible apply Pk.t)) ?_
  refine en_rds (kz := 3) (xs := wcs x.ws) (by simp [wcs, Wr.cells]) (by rw [wcs_len]; exact h0) (wcs_len x.ws).symm (by repeat (first | with_reducible exact Pk.h | with_reducible apply Pk.t)) fun hv => ?_
  obtain ⟨a, c, hve⟩ := hv.len
  rw [wcs_len] at hve
  have hstep : ∀ i (h : i < x.ws.length), _ := fun i h => ics_step (x := x) h
  obtain ⟨tx, xb, hd, ws, v⟩ := x
  obtain ⟨tc, tn⟩ := tx
  dsimp only at hve hko hmem hok h0 hl hv hstep ⊢
  subst hve
  simp only [Tx.V] at hko hmem ⊢
  (repeat (first | ((with_reducible apply t_run); exact rfl) | ((with_reducible apply t_p); exact rfl; exact rfl) | ((with_reducible apply t_gr); exact rfl) | ((with_reducible apply t_ge); exact rfl) | ((with_reducible apply t_ld); exact rfl; exact rfl; (repeat (first | with_reducible exact Pk.h | with_reducible apply Pk.t)); exact rfl) | ((with_reducible apply t_st); exact rfl; exact rfl; exact rfl; (repeat (first | with_reducible exact Pk.h | with_reducible apply Pk.t)); exact rfl; exact rfl; exact Nat.le_of_ble_eq_true rfl; exact rfl; (repeat (first | apply rk_nil | (apply rk_skip; exact rfl) | (apply rk_ld; exact rfl; (repeat (first | with_reducible exact Pk.h | with_reducible apply Pk.t)); exact rfl)))) | ((with_reducible apply t_nx F13.k); exact rfl; exact rfl) | with_reducible apply m_seq | (with_reducible apply m_reg mix) | with_reducible apply m_block | ((with_reducible apply m_ct); exact rfl) | ((with_reducible apply m_cf); exact rfl) | ((with_reducible apply m_skn); exact rfl) | ((with_reducible apply m_exn); exact rfl)))
  refine t_bx rfl rfl rfl fun b3 => ⟨(by (repeat (first | apply rk_nil | (apply rk_skip; exact rfl) | (apply rk_ld; exact rfl; (repeat (first | with_reducible exact Pk.h | with_reducible apply Pk.t)); exact rfl)))), ?_⟩
  try dsimp only [List.cons_append, List.nil_append]
  (repeat (first | ((with_reducible apply t_run); exact rfl) | ((with_reducible apply t_p); exact rfl; exact rfl) | ((with_reducible apply t_gr); exact rfl) | ((with_reducible apply t_ge); exact rfl) | ((with_reducible apply t_ld); exact rfl; exact rfl; (repeat (first | with_reducible exact Pk.h | with_reducible apply Pk.t)); exact rfl) | ((with_reducible apply t_st); exact rfl; exact rfl; exact rfl; (repeat (first | with_reducible exact Pk.h | with_reducible apply Pk.t)); exact rfl; exact rfl; exact Nat.le_of_ble_eq_true rfl; exact rfl; (repeat (first | apply rk_nil | (apply rk_skip; exact rfl) | (apply rk_ld; exact rfl; (repeat (first | with_reducible exact Pk.h | with_reducible apply Pk.t)); exact rfl)))) | ((with_reducible apply t_nx F13.k); exact rfl; exact rfl) | with_reducible apply m_seq | (with_reducible apply m_reg mix) | with_reducible apply m_block | ((with_reducible apply m_ct); exact rfl) | ((with_reducible apply m_cf); exact rfl) | ((with_reducible apply m_skn); exact rfl) | ((with_reducible apply m_exn); exact rfl)))
  refine t_r (v := .pointer (some ⟨xb, 0, none⟩)) rfl (look_rv ktx und59 (zrun und71) rfl rfl hko (by repeat (first | with_reducible exact Pk.h | with_reducible apply Pk.t)) (.inr hmem)) ?_
  (repeat (first | ((with_reducible apply t_run); exact rfl) | ((with_reducible apply t_p); exact rfl; exact rfl) | ((with_reducible apply t_gr); exact rfl) | ((with_reducible apply t_ge); exact rfl) | ((with_reducible apply t_ld); exact rfl; exact rfl; (repeat (first | with_reducible exact Pk.h | with_reducible apply Pk.t)); exact rfl) | ((with_reducible apply t_st); exact rfl; exact rfl; exact rfl; (repeat (first | with_reducible exact Pk.h | with_reducible apply Pk.t)); exact rfl; exact rfl; exact Nat.le_of_ble_eq_true rfl; exact rfl; (repeat (first | apply rk_nil | (apply rk_skip; exact rfl) | (apply rk_ld; exact rfl; (repeat (first | with_reducible exact Pk.h | with_reducible apply Pk.t)); exact rfl)))) | ((with_reducible apply t_nx F13.k); exact rfl; exact rfl) | with_reducible apply m_seq | (with_reducible apply m_reg mix) | with_reducible apply m_block | ((with_reducible apply m_ct); exact rfl) | ((with_reducible apply m_cf); exact rfl) | ((with_reducible apply m_skn); exact rfl) | ((with_reducible apply m_exn); exact rfl)))
  refine t_r (v := .pointer (some ⟨xb, 0, none⟩)) rfl (look_rv ktx und59 (zrun und71) rfl rfl hko (by repeat (first | with_reducible exact Pk.h | with_reducible apply Pk.t)) (.inr hmem)) ?_
  simp only [hdC]
  (repeat (first | ((with_reducible apply t_run); exact rfl) | ((with_reducible apply t_p); exact rfl; exact rfl) | ((with_reducible apply t_gr); exact rfl) | ((with_reducible apply t_ge); exact rfl) | ((with_reducible apply t_ld); exact rfl; exact rfl; (repeat (first | with_reducible exact Pk.h | with_reducible apply Pk.t)); exact rfl) | ((with_reducible apply t_st); exact rfl; exact rfl; exact rfl; (repeat (first | with_reducible exact Pk.h | with_reducible apply Pk.t)); exact rfl; exact rfl; exact Nat.le_of_ble_eq_true rfl; exact rfl; (repeat (first | apply rk_nil | (apply rk_skip; exact rfl) | (apply rk_ld; exact rfl; (repeat (first | with_reducible exact Pk.h | with_reducible apply Pk.t)); exact rfl)))) | ((with_reducible apply t_nx F13.k); exact rfl; exact rfl) | with_reducible apply m_seq | (with_reducible apply m_reg mix) | with_reducible apply m_block | ((with_reducible apply m_ct); exact rfl) | ((with_reducible apply m_cf); exact rfl) | ((with_reducible apply m_skn); exact rfl) | ((with_reducible apply m_exn); exact rfl)))
  generalize hX : (Hold.mk ⟨tc, tn⟩ xb hd ws (.slice a ws.length c)) = Y at hx hmem hil hstep ⊢
  refine en_own (E := 41) (kz := 10) ?_
  refine m_lp (α := Nat × Value) (fun z => [(29, .int .i64 (z.1 : Nat)), (0, .pointer (some ⟨t, 0, none⟩)), (3, .pointer (some ⟨b3, 0, none⟩)), (5, z.2), (27, .slice a ws.length c), (28, .int .i64 (ws.length : Nat))])
    (fun z => [OwS 41 10 z.2 z.1 (ics ((inL Y).take z.1)).flatten, Cl b3 25 [.int .u32 tc, .int .u32 tn], Cl xb 75 (hdC hd (.slice a ws.length c)), OwS 39 3 (.slice a ws.length c) ws.length (wcs ws).flatten, HsA (l1 ++ l2),
      Cl t 65 [.map (some hb), .pointer (some ⟨m, 0, none⟩)], MpO Try.prog 25 hb (entL (l1 ++ Y :: l2)), MpA m keys, X]) (fun z => z.1 ≤ ws.length) (fun z => ws.length - z.1) ?_ (0, .slice none 0 0) (by simp) [29, 0, 3, 5, 27, 28] rfl (by repeat (first | apply Sx.nil | apply Pk.h | apply Sx.cons | apply Pk.t))
  rintro ⟨i, v⟩ hi
  dsimp only at hi ⊢
  simp only [hdC]
  (repeat (first | ((with_reducible apply t_run); exact rfl) | ((with_reducible apply t_p); exact rfl; exact rfl) | ((with_reducible apply t_gr); exact rfl) | ((with_reducible apply t_ge); exact rfl) | ((with_reducible apply t_ld); exact rfl; exact rfl; (repeat (first | with_reducible exact Pk.h | with_reducible apply Pk.t)); exact rfl) | ((with_reducible apply t_st); exact rfl; exact rfl; exact rfl; (repeat (first | with_reducible exact Pk.h | with_reducible apply Pk.t)); exact rfl; exact rfl; exact Nat.le_of_ble_eq_true rfl; exact rfl; (repeat (first | apply rk_nil | (apply rk_skip; exact rfl) | (apply rk_ld; exact rfl; (repeat (first | with_reducible exact Pk.h | with_reducible apply Pk.t)); exact rfl)))) | ((with_reducible apply t_nx F13.k); exact rfl; exact rfl) | with_reducible apply m_seq | (with_reducible apply m_reg mix) | with_reducible apply m_block | ((with_reducible apply m_ct); exact rfl) | ((with_reducible apply m_cf); exact rfl) | ((with_reducible apply m_skn); exact rfl) | ((with_reducible apply m_exn); exact rfl)))
  refine m_cond rfl (fun q => ?_) (fun q => ?_)
  · have hi' : i < ws.length := by have := of_decide_eq_true q; omega
    have hst := hstep i hi'
    obtain ⟨b, o, rfl, _⟩ := hv.ptr (by rw [wcs_len]; omega)
    (repeat (first | ((with_reducible apply t_run); exact rfl) | ((with_reducible apply t_p); exact rfl; exact rfl) | ((with_reducible apply t_gr); exact rfl) | ((with_reducible apply t_ge); exact rfl) | ((with_reducible apply t_ld); exact rfl; exact rfl; (repeat (first | with_reducible exact Pk.h | with_reducible apply Pk.t)); exact rfl) | ((with_reducible apply t_st); exact rfl; exact rfl; exact rfl; (repeat (first | with_reducible exact Pk.h | with_reducible apply Pk.t)); exact rfl; exact rfl; exact Nat.le_of_ble_eq_true rfl; exact rfl; (repeat (first | apply rk_nil | (apply rk_skip; exact rfl) | (apply rk_ld; exact rfl; (repeat (first | with_reducible exact Pk.h | with_reducible apply Pk.t)); exact rfl)))) | ((with_reducible apply t_nx F13.k); exact rfl; exact rfl) | with_reducible apply m_seq | (with_reducible apply m_reg mix) | with_reducible apply m_block | ((with_reducible apply m_ct); exact rfl) | ((with_reducible apply m_cf); exact rfl) | ((with_reducible apply m_skn); exact rfl) | ((with_reducible apply m_exn); exact rfl)))
    refine t_ia i rfl rfl rfl hi' ?_
    refine t_la rfl rfl (R := OwS 39 3 (.slice (some ⟨b, o, none⟩) ws.length c) ws.length (wcs ws).flatten) (by repeat (first | with_reducible exact Pk.h | with_reducible apply Pk.t)) (hv.at (by decide) (i := i) (x := ws[i].cells) (by simp [wcs, hi'])) ?_
    refine t_al rfl fun b7 => ⟨(by (repeat (first | apply rk_nil | (apply rk_skip; exact rfl) | (apply rk_ld; exact rfl; (repeat (first | with_reducible exact Pk.h | with_reducible apply Pk.t)); exact rfl)))), ?_⟩
    simp only [Wr.cells]
    (repeat (first | ((with_reducible apply t_run); exact rfl) | ((with_reducible apply t_p); exact rfl; exact rfl) | ((with_reducible apply t_gr); exact rfl) | ((with_reducible apply t_ge); exact rfl) | ((with_reducible apply t_ld); exact rfl; exact rfl; (repeat (first | with_reducible exact Pk.h | with_reducible apply Pk.t)); exact rfl) | ((with_reducible apply t_st); exact rfl; exact rfl; exact rfl; (repeat (first | with_reducible exact Pk.h | with_reducible apply Pk.t)); exact rfl; exact rfl; exact Nat.le_of_ble_eq_true rfl; exact rfl; (repeat (first | apply rk_nil | (apply rk_skip; exact rfl) | (apply rk_ld; exact rfl; (repeat (first | with_reducible exact Pk.h | with_reducible apply Pk.t)); exact rfl)))) | ((with_reducible apply t_nx F13.k); exact rfl; exact rfl) | with_reducible apply m_seq | (with_reducible apply m_reg mix) | with_reducible apply m_block | ((with_reducible apply m_ct); exact rfl) | ((with_reducible apply m_cf); exact rfl) | ((with_reducible apply m_skn); exact rfl) | ((with_reducible apply m_exn); exact rfl)))
    refine t_r (v := .pointer (some ⟨xb, 0, none⟩)) rfl (look_rv ktx und59 (zrun und71) rfl rfl hko (by repeat (first | with_reducible exact Pk.h | with_reducible apply Pk.t)) (.inr hmem)) ?_
    (repeat (first | ((with_reducible apply t_run); exact rfl) | ((with_reducible apply t_p); exact rfl; exact rfl) | ((with_reducible apply t_gr); exact rfl) | ((with_reducible apply t_ge); exact rfl) | ((with_reducible apply t_ld); exact rfl; exact rfl; (repeat (first | with_reducible exact Pk.h | with_reducible apply Pk.t)); exact rfl) | ((with_reducible apply t_st); exact rfl; exact rfl; exact rfl; (repeat (first | with_reducible exact Pk.h | with_reducible apply Pk.t)); exact rfl; exact rfl; exact Nat.le_of_ble_eq_true rfl; exact rfl; (repeat (first | apply rk_nil | (apply rk_skip; exact rfl) | (apply rk_ld; exact rfl; (repeat (first | with_reducible exact Pk.h | with_reducible apply Pk.t)); exact rfl)))) | ((with_reducible apply t_nx F13.k); exact rfl; exact rfl) | with_reducible apply m_seq | (with_reducible apply m_reg mix) | with_reducible apply m_block | ((with_reducible apply m_ct); exact rfl) | ((with_reducible apply m_cf); exact rfl) | ((with_reducible apply m_skn); exact rfl) | ((with_reducible apply m_exn); exact rfl)))
    refine t_cl rfl rfl (intent_spec xb hd _ ⟨tc, tn⟩ ws[i]) (by repeat (first | apply Sx.nil | apply Pk.h | apply Sx.cons | apply Pk.t)) ?_
    rintro _ _ ⟨rfl, rfl⟩
    refine ⟨?_, ?_⟩ <;> (try dsimp only [List.cons_append, List.nil_append])
    · (repeat (first | apply rk_nil | (apply rk_skip; exact rfl) | (apply rk_ld; exact rfl; (repeat (first | with_reducible exact Pk.h | with_reducible apply Pk.t)); exact rfl)))
    refine t_bsl sl42 rfl rfl rfl rfl rfl rfl rfl rfl fun bs => ⟨(by (repeat (first | apply rk_nil | (apply rk_skip; exact rfl) | (apply rk_ld; exact rfl; (repeat (first | with_reducible exact Pk.h | with_reducible apply Pk.t)); exact rfl)))), ?_⟩
    try dsimp only [List.cons_append, List.nil_append]
    refine t_app sl42 rfl rfl rfl (by repeat (first | with_reducible exact Pk.h | with_reducible apply Pk.t)) (by repeat (first | with_reducible exact Pk.h | with_reducible apply Pk.t)) rfl (by decide) (by decide) rfl rfl rfl (by omega) (by omega) fun v' => ⟨(by (repeat (first | apply rk_nil | (apply rk_skip; exact rfl) | (apply rk_ld; exact rfl; (repeat (first | with_reducible exact Pk.h | with_reducible apply Pk.t)); exact rfl)))), ?_⟩
    try dsimp only [List.cons_append, List.nil_append]
    refine en_x (x := OwS 41 10 v' (i + 1) _) (OwS 41 10 v' (i + 1) (ics ((inL Y).take (i + 1))).flatten) (by repeat (first | with_reducible exact Pk.h | with_reducible apply Pk.t)) (by rw [hst]; rfl) ?_
    (repeat (first | ((with_reducible apply t_run); exact rfl) | ((with_reducible apply t_p); exact rfl; exact rfl) | ((with_reducible apply t_gr); exact rfl) | ((with_reducible apply t_ge); exact rfl) | ((with_reducible apply t_ld); exact rfl; exact rfl; (repeat (first | with_reducible exact Pk.h | with_reducible apply Pk.t)); exact rfl) | ((with_reducible apply t_st); exact rfl; exact rfl; exact rfl; (repeat (first | with_reducible exact Pk.h | with_reducible apply Pk.t)); exact rfl; exact rfl; exact Nat.le_of_ble_eq_true rfl; exact rfl; (repeat (first | apply rk_nil | (apply rk_skip; exact rfl) | (apply rk_ld; exact rfl; (repeat (first | with_reducible exact Pk.h | with_reducible apply Pk.t)); exact rfl)))) | ((with_reducible apply t_nx F13.k); exact rfl; exact rfl) | with_reducible apply m_seq | (with_reducible apply m_reg mix) | with_reducible apply m_block | ((with_reducible apply m_ct); exact rfl) | ((with_reducible apply m_cf); exact rfl) | ((with_reducible apply m_skn); exact rfl) | ((with_reducible apply m_exn); exact rfl)))
    refine t_meet rfl (i + 1, v') ⟨hi', (by simp; omega)⟩ [29, 0, 3, 5, 27, 28] ?_ (by repeat (first | apply Sx.nil | apply Pk.h | apply Sx.cons | apply Pk.t))
    rw [wrap_nat (by omega)]
    rfl
  · have hi' : i = ws.length := by have := of_decide_eq_false q; omega
    (repeat (first | ((with_reducible apply t_run); exact rfl) | ((with_reducible apply t_p); exact rfl; exact rfl) | ((with_reducible apply t_gr); exact rfl) | ((with_reducible apply t_ge); exact rfl) | ((with_reducible apply t_ld); exact rfl; exact rfl; (repeat (first | with_reducible exact Pk.h | with_reducible apply Pk.t)); exact rfl) | ((with_reducible apply t_st); exact rfl; exact rfl; exact rfl; (repeat (first | with_reducible exact Pk.h | with_reducible apply Pk.t)); exact rfl; exact rfl; exact Nat.le_of_ble_eq_true rfl; exact rfl; (repeat (first | apply rk_nil | (apply rk_skip; exact rfl) | (apply rk_ld; exact rfl; (repeat (first | with_reducible exact Pk.h | with_reducible apply Pk.t)); exact rfl)))) | ((with_reducible apply t_nx F13.k); exact rfl; exact rfl) | with_reducible apply m_seq | (with_reducible apply m_reg mix) | with_reducible apply m_block | ((with_reducible apply m_ct); exact rfl) | ((with_reducible apply m_cf); exact rfl) | ((with_reducible apply m_skn); exact rfl) | ((with_reducible apply m_exn); exact rfl)))
    subst hX
    refine en_put (x := Hold.mk ⟨tc, tn⟩ xb hd ws (.slice a ws.length c)) (l1 := l1) (l2 := l2) (by repeat (first | apply Sx.nil | apply Pk.h | apply Sx.cons | apply Pk.t)) ?_
    refine en_mktab (t := t) (hb := hb) (m := m) (hs := l1 ++ _ :: l2) (keys := keys) (by repeat (first | apply Sx.nil | apply Pk.h | apply Sx.cons | apply Pk.t)) ?_
    rw [List.take_of_length_le (by rw [hil]; exact Nat.le_of_eq hi'.symm), hi', ← hil]
    apply m_ret
    · rfl
    · (repeat (first | apply rs_nil | (apply rs_tmp; exact rfl) | (apply rs_cell; exact rfl; (repeat (first | with_reducible exact Pk.h | with_reducible apply Pk.t)); exact rfl)))
    · exact rfl
    · exact (by repeat (first | apply Sx.nil | apply Pk.h | apply Sx.cons | apply Pk.t))
end Go.Proofs.Ythcbefkgfhokoaa
