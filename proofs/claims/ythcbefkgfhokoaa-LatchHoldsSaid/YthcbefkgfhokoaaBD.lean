import Derived.Test.YthcbefkgfhokoaaBC
/- The latch's table: what is busy; a transaction's intents. -/
namespace Go.Proofs.Ythcbefkgfhokoaa
open Go Go.Dv
set_option maxRecDepth 100000
attribute [local irreducible] HTh HM En Fsp TrA Cl MpA OwS RdS MpO TabA HsA

def busyP (keys : KL) (w : Wr) : Bool := (getK keys w.key).isSome
theorem busy_spec (t b6 : Nat) (hs : List Hold) (keys : KL) (w : Wr) :
    Fsp Try.prog 29 [w.V, .pointer (some ⟨b6, 0, none⟩)] [Sep [Cl b6 34 [.pointer (some ⟨t, 0, none⟩)], TabA t hs keys]] fun u aa' => u = .bool (busyP keys w) ∧ aa' = [Sep [Cl b6 34 [.pointer (some ⟨t, 0, none⟩)], TabA t hs keys]] := by
  obtain ⟨wk, wv, wd⟩ := w
  refine spec_of F29.ok rfl fun gl X => ?_
  dsimp only [List.cons_append, List.nil_append]
  simp only [Wr.V]
  refine en_one (by repeat (first | with_reducible exact Pk.h | with_reducible apply Pk.t)) ?_
  dsimp only [List.cons_append, List.nil_append]
  refine en_tab (by repeat (first | with_reducible exact Pk.h | with_reducible apply Pk.t)) fun hb m => ?_
  (repeat (first | ((with_reducible apply t_run); exact rfl) | ((with_reducible apply t_p); exact rfl; exact rfl) | ((with_reducible apply t_gr); exact rfl) | ((with_reducible apply t_ge); exact rfl) | ((with_reducible apply t_ld); exact rfl; exact rfl; (repeat (first | with_reducible exact Pk.h | with_reducible apply Pk.t)); exact rfl) | ((with_reducible apply t_st); exact rfl; exact rfl; exact rfl; (repeat (first | with_reducible exact Pk.h | with_reducible apply Pk.t)); exact rfl; exact rfl; exact Nat.le_of_ble_eq_true rfl; exact rfl; (repeat (first | apply rk_nil | (apply rk_skip; exact rfl) | (apply rk_ld; exact rfl; (repeat (first | with_reducible exact Pk.h | with_reducible apply Pk.t)); exact rfl)))) | ((with_reducible apply t_nx F29.k); exact rfl; exact rfl) | with_reducible apply m_seq | (with_reducible apply m_reg mix) | with_reducible apply m_block | ((with_reducible apply m_ct); exact rfl) | ((with_reducible apply m_cf); exact rfl) | ((with_reducible apply m_skn); exact rfl) | ((with_reducible apply m_exn); exact rfl)))
  refine t_bx rfl rfl rfl fun b2 => ⟨(by (repeat (first | apply rk_nil | (apply rk_skip; exact rfl) | (apply rk_ld; exact rfl; (repeat (first | with_reducible exact Pk.h | with_reducible apply Pk.t)); exact rfl)))), ?_⟩
  try dsimp only [List.cons_append, List.nil_append]
  (repeat (first | ((with_reducible apply t_run); exact rfl) | ((with_reducible apply t_p); exact rfl; exact rfl) | ((with_reducible apply t_gr); exact rfl) | ((with_reducible apply t_ge); exact rfl) | ((with_reducible apply t_ld); exact rfl; exact rfl; (repeat (first | with_reducible exact Pk.h | with_reducible apply Pk.t)); exact rfl) | ((with_reducible apply t_st); exact rfl; exact rfl; exact rfl; (repeat (first | with_reducible exact Pk.h | with_reducible apply Pk.t)); exact rfl; exact rfl; exact Nat.le_of_ble_eq_true rfl; exact rfl; (repeat (first | apply rk_nil | (apply rk_skip; exact rfl) | (apply rk_ld; exact rfl; (repeat (first | with_reducible exact Pk.h | with_reducible apply Pk.t)); exact rfl)))) | ((with_reducible apply t_nx F29.k); exact rfl; exact rfl) | with_reducible apply m_seq | (with_reducible apply m_reg mix) | with_reducible apply m_block | ((with_reducible apply m_ct); exact rfl) | ((with_reducible apply m_cf); exact rfl) | ((with_reducible apply m_skn); exact rfl) | ((with_reducible apply m_exn); exact rfl)))
  refine t_alt ?_ ?_
  · skip
    refine t_cl rfl rfl (Get_spec m wk keys) (by repeat (first | apply Sx.nil | apply Pk.h | apply Sx.cons | apply Pk.t)) ?_
    rintro _ _ ⟨rfl, rfl⟩
    refine ⟨?_, ?_⟩ <;> (try dsimp only [List.cons_append, List.nil_append])
    · (repeat (first | apply rk_nil | (apply rk_skip; exact rfl) | (apply rk_ld; exact rfl; (repeat (first | with_reducible exact Pk.h | with_reducible apply Pk.t)); exact rfl)))
    (repeat (first | ((with_reducible apply t_run); exact rfl) | ((with_reducible apply t_p); exact rfl; exact rfl) | ((with_reducible apply t_gr); exact rfl) | ((with_reducible apply t_ge); exact rfl) | ((with_reducible apply t_ld); exact rfl; exact rfl; (repeat (first | with_reducible exact Pk.h | with_reducible apply Pk.t)); exact rfl) | ((with_reducible apply t_st); exact rfl; exact rfl; exact rfl; (repeat (first | with_reducible exact Pk.h | with_reducible apply Pk.t)); exact rfl; exact rfl; exact Nat.le_of_ble_eq_true rfl; exact rfl; (repeat (first | apply rk_nil | (apply rk_skip; exact rfl) | (apply rk_ld; exact rfl; (repeat (first | with_reducible exact Pk.h | with_reducible apply Pk.t)); exact rfl)))) | ((with_reducible apply t_nx F29.k); exact rfl; exact rfl) | with_reducible apply m_seq | (with_reducible apply m_reg mix) | with_reducible apply m_block | ((with_reducible apply m_ct); exact rfl) | ((with_reducible apply m_cf); exact rfl) | ((with_reducible apply m_skn); exact rfl) | ((with_reducible apply m_exn); exact rfl)))
    refine t_al rfl fun b4 => ⟨(by (repeat (first | apply rk_nil | (apply rk_skip; exact rfl) | (apply rk_ld; exact rfl; (repeat (first | with_reducible exact Pk.h | with_reducible apply Pk.t)); exact rfl)))), ?_⟩
    (repeat (first | ((with_reducible apply t_run); exact rfl) | ((with_reducible apply t_p); exact rfl; exact rfl) | ((with_reducible apply t_gr); exact rfl) | ((with_reducible apply t_ge); exact rfl) | ((with_reducible apply t_ld); exact rfl; exact rfl; (repeat (first | with_reducible exact Pk.h | with_reducible apply Pk.t)); exact rfl) | ((with_reducible apply t_st); exact rfl; exact rfl; exact rfl; (repeat (first | with_reducible exact Pk.h | with_reducible apply Pk.t)); exact rfl; exact rfl; exact Nat.le_of_ble_eq_true rfl; exact rfl; (repeat (first | apply rk_nil | (apply rk_skip; exact rfl) | (apply rk_ld; exact rfl; (repeat (first | with_reducible exact Pk.h | with_reducible apply Pk.t)); exact rfl)))) | ((with_reducible apply t_nx F29.k); exact rfl; exact rfl) | with_reducible apply m_seq | (with_reducible apply m_reg mix) | with_reducible apply m_block | ((with_reducible apply m_ct); exact rfl) | ((with_reducible apply m_cf); exact rfl) | ((with_reducible apply m_skn); exact rfl) | ((with_reducible apply m_exn); exact rfl)))
    refine en_mktab (t := t) (hb := hb) (m := m) (hs := hs) (keys := keys) (by repeat (first | apply Sx.nil | apply Pk.h | apply Sx.cons | apply Pk.t)) ?_
    refine en_toone (ys := [Cl b6 34 [.pointer (some ⟨t, 0, none⟩)], TabA t hs keys]) (by repeat (first | apply Sx.nil | apply Pk.h | apply Sx.cons | apply Pk.t)) ?_
    apply m_ret
    · rfl
    · (repeat (first | apply rs_nil | (apply rs_tmp; exact rfl) | (apply rs_cell; exact rfl; (repeat (first | with_reducible exact Pk.h | with_reducible apply Pk.t)); exact rfl)))
    · exact ⟨rfl, rfl⟩
    · exact (by repeat (first | apply Sx.nil | apply Pk.h | apply Sx.cons | apply Pk.t))
  · refine t_al rfl fun b4 => ⟨(by (repeat (first | apply rk_nil | (apply rk_skip; exact rfl) | (apply rk_ld; exact rfl; (repeat (first | with_reducible exact Pk.h | with_reducible apply Pk.t)); exact rfl)))), ?_⟩
    (repeat (first | ((with_reducible apply t_run); exact rfl) | ((with_reducible apply t_p); exact rfl; exact rfl) | ((with_reducible apply t_gr); exact rfl) | ((with_reducible apply t_ge); exact rfl) | ((with_reducible apply t_ld); exact rfl; exact rfl; (repeat (first | with_reducible exact Pk.h | with_reducible apply Pk.t)); exact rfl) | ((with_reducible apply t_st); exact rfl; exact rfl; exact rfl; (repeat (first | with_reducible exact Pk.h | with_reducible apply Pk.t)); exact rfl; exact rfl; exact Nat.le_of_ble_eq_true rfl; exact rfl; (repeat (first | apply rk_nil | (apply rk_skip; exact rfl) | (apply rk_ld; exact rfl; (repeat (first | with_reducible exact Pk.h | with_reducible apply Pk.t)); exact rfl)))) | ((with_reducible apply t_nx F29.k); exact rfl; exact rfl) | with_reducible apply m_seq | (with_reducible apply m_reg mix) | with_reducible apply m_block | ((with_reducible apply m_ct); exact rfl) | ((with_reducible apply m_cf); exact rfl) | ((with_reducible apply m_skn); exact rfl) | ((with_reducible apply m_exn); exact rfl)))
    refine t_cl rfl rfl (Get_spec m wk keys) (by repeat (first | apply Sx.nil | apply Pk.h | apply Sx.cons | apply Pk.t)) ?_
    rintro _ _ ⟨rfl, rfl⟩
    refine ⟨?_, ?_⟩ <;> (try dsimp only [List.cons_append, List.nil_append])
    · (repeat (first | apply rk_nil | (apply rk_skip; exact rfl) | (apply rk_ld; exact rfl; (repeat (first | with_reducible exact Pk.h | with_reducible apply Pk.t)); exact rfl)))
    (repeat (first | ((with_reducible apply t_run); exact rfl) | ((with_reducible apply t_p); exact rfl; exact rfl) | ((with_reducible apply t_gr); exact rfl) | ((with_reducible apply t_ge); exact rfl) | ((with_reducible apply t_ld); exact rfl; exact rfl; (repeat (first | with_reducible exact Pk.h | with_reducible apply Pk.t)); exact rfl) | ((with_reducible apply t_st); exact rfl; exact rfl; exact rfl; (repeat (first | with_reducible exact Pk.h | with_reducible apply Pk.t)); exact rfl; exact rfl; exact Nat.le_of_ble_eq_true rfl; exact rfl; (repeat (first | apply rk_nil | (apply rk_skip; exact rfl) | (apply rk_ld; exact rfl; (repeat (first | with_reducible exact Pk.h | with_reducible apply Pk.t)); exact rfl)))) | ((with_reducible apply t_nx F29.k); exact rfl; exact rfl) | with_reducible apply m_seq | (with_reducible apply m_reg mix) | with_reducible apply m_block | ((with_reducible apply m_ct); exact rfl) | ((with_reducible apply m_cf); exact rfl) | ((with_reducible apply m_skn); exact rfl) | ((with_reducible apply m_exn); exact rfl)))
    refine en_mktab (t := t) (hb := hb) (m := m) (hs := hs) (keys := keys) (by repeat (first | apply Sx.nil | apply Pk.h | apply Sx.cons | apply Pk.t)) ?_
    refine en_toone (ys := [Cl b6 34 [.pointer (some ⟨t, 0, none⟩)], TabA t hs keys]) (by repeat (first | apply Sx.nil | apply Pk.h | apply Sx.cons | apply Pk.t)) ?_
    apply m_ret
    · rfl
    · (repeat (first | apply rs_nil | (apply rs_tmp; exact rfl) | (apply rs_cell; exact rfl; (repeat (first | with_reducible exact Pk.h | with_reducible apply Pk.t)); exact rfl)))
    · exact ⟨rfl, rfl⟩
    · exact (by repeat (first | apply Sx.nil | apply Pk.h | apply Sx.cons | apply Pk.t))

theorem bd29 : Bd Try.prog 29 := by
  have h : (match Try.prog.funcs[29]? with | some fn => (fn.name == "runtime.NumGoroutine") == false && fn.body.isSome | none => false) = true := by kernel_rfl
  split at h
  · rename_i fn hf
    simp only [Bool.and_eq_true, beq_iff_eq] at h
    cases hb : fn.body with
    | none => rw [hb] at h; simp at h
    | some c => exact ⟨fn, c, hf, h.1, hb⟩
  · cases h
end Go.Proofs.Ythcbefkgfhokoaa
