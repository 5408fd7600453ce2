import Derived.Test.YthcbefkgfhokoaaB5
/- The map: Keys, Cut, New. -/
namespace Go.Proofs.Ythcbefkgfhokoaa
open Go Go.Dv
set_option maxRecDepth 100000
attribute [local irreducible] HTh HM En Fsp TrA Cl MpA OwS

def rngL (f o : ByteArray) (l : KL) : List ByteArray := (l.map (·.1)).filter (inR f o)

theorem Keys_spec (m : Nat) (f o : ByteArray) (l : KL) :
    Fsp Try.prog 36 [.pointer (some ⟨m, 0, none⟩), .string f, .string o, .int .i64 9223372036854775807] [MpA m l]
      fun u aa' => ∃ sa sc, u = .slice sa (rngL f o l).length sc ∧ aa' = [MpA m l, OwS 9 1 (.slice sa (rngL f o l).length sc) (rngL f o l).length (strs (rngL f o l))] := by
  refine spec_of F36.ok rfl fun gl X => ?_
  dsimp only [List.cons_append, List.nil_append]
  refine en_map (by repeat (first | with_reducible exact Pk.h | with_reducible apply Pk.t)) ?_
  intro rt t hl hk hs hb
  subst hl
  (repeat (first | ((with_reducible apply t_run); exact rfl) | ((with_reducible apply t_p); exact rfl; exact rfl) | ((with_reducible apply t_gr); exact rfl) | ((with_reducible apply t_ge); exact rfl) | ((with_reducible apply t_ld); exact rfl; exact rfl; (repeat (first | with_reducible exact Pk.h | with_reducible apply Pk.t)); exact rfl) | ((with_reducible apply t_st); exact rfl; exact rfl; exact rfl; (repeat (first | with_reducible exact Pk.h | with_reducible apply Pk.t)); exact rfl; exact rfl; exact Nat.le_of_ble_eq_true rfl; exact rfl; (repeat (first | apply rk_nil | (apply rk_skip; exact rfl) | (apply rk_ld; exact rfl; (repeat (first | with_reducible exact Pk.h | with_reducible apply Pk.t)); exact rfl)))) | ((with_reducible apply t_nx F36.k); exact rfl; exact rfl) | with_reducible apply m_seq | (with_reducible apply m_reg mix) | with_reducible apply m_block | ((with_reducible apply m_ct); exact rfl) | ((with_reducible apply m_cf); exact rfl) | ((with_reducible apply m_skn); exact rfl) | ((with_reducible apply m_exn); exact rfl)))
  have hsz : sz t < 549755813888 := by rw [sz_len]; omega
  refine en_own (E := 9) (kz := 1) ?_
  refine t_cl rfl rfl (keys_spec f o t rt none 0 [] hs (by simp; omega)) (by repeat (first | apply Sx.nil | apply Pk.h | apply Sx.cons | apply Pk.t)) ?_
  rintro _ _ ⟨sa, sc, rfl, rfl⟩
  refine ⟨?_, ?_⟩ <;> (try dsimp only [List.cons_append, List.nil_append])
  · (repeat (first | apply rk_nil | (apply rk_skip; exact rfl) | (apply rk_ld; exact rfl; (repeat (first | with_reducible exact Pk.h | with_reducible apply Pk.t)); exact rfl)))
  (repeat (first | ((with_reducible apply t_run); exact rfl) | ((with_reducible apply t_p); exact rfl; exact rfl) | ((with_reducible apply t_gr); exact rfl) | ((with_reducible apply t_ge); exact rfl) | ((with_reducible apply t_ld); exact rfl; exact rfl; (repeat (first | with_reducible exact Pk.h | with_reducible apply Pk.t)); exact rfl) | ((with_reducible apply t_st); exact rfl; exact rfl; exact rfl; (repeat (first | with_reducible exact Pk.h | with_reducible apply Pk.t)); exact rfl; exact rfl; exact Nat.le_of_ble_eq_true rfl; exact rfl; (repeat (first | apply rk_nil | (apply rk_skip; exact rfl) | (apply rk_ld; exact rfl; (repeat (first | with_reducible exact Pk.h | with_reducible apply Pk.t)); exact rfl)))) | ((with_reducible apply t_nx F36.k); exact rfl; exact rfl) | with_reducible apply m_seq | (with_reducible apply m_reg mix) | with_reducible apply m_block | ((with_reducible apply m_ct); exact rfl) | ((with_reducible apply m_cf); exact rfl) | ((with_reducible apply m_skn); exact rfl) | ((with_reducible apply m_exn); exact rfl)))
  refine en_mkmap (m := m) (l := toL t) (rt := rt) (t := t) rfl hk hs hb rfl (by repeat (first | apply Sx.nil | apply Pk.h | apply Sx.cons | apply Pk.t)) ?_
  apply m_ret
  · rfl
  · (repeat (first | apply rs_nil | (apply rs_tmp; exact rfl) | (apply rs_cell; exact rfl; (repeat (first | with_reducible exact Pk.h | with_reducible apply Pk.t)); exact rfl)))
  · exact ⟨_, _, rfl, rfl⟩
  · exact (by repeat (first | apply Sx.nil | apply Pk.h | apply Sx.cons | apply Pk.t))

theorem New_spec : Fsp Try.prog 26 [] [] fun u aa' => ∃ m, u = .pointer (some ⟨m, 0, none⟩) ∧ aa' = [MpA m []] := by
  refine spec_of F26.ok rfl fun gl X => ?_
  dsimp only [List.cons_append, List.nil_append]
  (repeat (first | ((with_reducible apply t_run); exact rfl) | ((with_reducible apply t_p); exact rfl; exact rfl) | ((with_reducible apply t_gr); exact rfl) | ((with_reducible apply t_ge); exact rfl) | ((with_reducible apply t_ld); exact rfl; exact rfl; (repeat (first | with_reducible exact Pk.h | with_reducible apply Pk.t)); exact rfl) | ((with_reducible apply t_st); exact rfl; exact rfl; exact rfl; (repeat (first | with_reducible exact Pk.h | with_reducible apply Pk.t)); exact rfl; exact rfl; exact Nat.le_of_ble_eq_true rfl; exact rfl; (repeat (first | apply rk_nil | (apply rk_skip; exact rfl) | (apply rk_ld; exact rfl; (repeat (first | with_reducible exact Pk.h | with_reducible apply Pk.t)); exact rfl)))) | ((with_reducible apply t_nx F26.k); exact rfl; exact rfl) | with_reducible apply m_seq | (with_reducible apply m_reg mix) | with_reducible apply m_block | ((with_reducible apply m_ct); exact rfl) | ((with_reducible apply m_cf); exact rfl) | ((with_reducible apply m_skn); exact rfl) | ((with_reducible apply m_exn); exact rfl)))
  refine t_bx rfl rfl rfl fun m => ⟨(by (repeat (first | apply rk_nil | (apply rk_skip; exact rfl) | (apply rk_ld; exact rfl; (repeat (first | with_reducible exact Pk.h | with_reducible apply Pk.t)); exact rfl)))), ?_⟩
  try dsimp only [List.cons_append, List.nil_append]
  (repeat (first | ((with_reducible apply t_run); exact rfl) | ((with_reducible apply t_p); exact rfl; exact rfl) | ((with_reducible apply t_gr); exact rfl) | ((with_reducible apply t_ge); exact rfl) | ((with_reducible apply t_ld); exact rfl; exact rfl; (repeat (first | with_reducible exact Pk.h | with_reducible apply Pk.t)); exact rfl) | ((with_reducible apply t_st); exact rfl; exact rfl; exact rfl; (repeat (first | with_reducible exact Pk.h | with_reducible apply Pk.t)); exact rfl; exact rfl; exact Nat.le_of_ble_eq_true rfl; exact rfl; (repeat (first | apply rk_nil | (apply rk_skip; exact rfl) | (apply rk_ld; exact rfl; (repeat (first | with_reducible exact Pk.h | with_reducible apply Pk.t)); exact rfl)))) | ((with_reducible apply t_nx F26.k); exact rfl; exact rfl) | with_reducible apply m_seq | (with_reducible apply m_reg mix) | with_reducible apply m_block | ((with_reducible apply m_ct); exact rfl) | ((with_reducible apply m_cf); exact rfl) | ((with_reducible apply m_skn); exact rfl) | ((with_reducible apply m_exn); exact rfl)))
  refine en_nl ?_
  refine en_mkmap (m := m) (l := []) (rt := none) (t := .nil) (n := 0) rfl trivial List.Pairwise.nil (by simp) rfl (by repeat (first | apply Sx.nil | apply Pk.h | apply Sx.cons | apply Pk.t)) ?_
  apply m_ret
  · rfl
  · (repeat (first | apply rs_nil | (apply rs_tmp; exact rfl) | (apply rs_cell; exact rfl; (repeat (first | with_reducible exact Pk.h | with_reducible apply Pk.t)); exact rfl)))
  · exact ⟨_, rfl, rfl⟩
  · exact (by repeat (first | apply Sx.nil | apply Pk.h | apply Sx.cons | apply Pk.t))

theorem cutK_srt {l : KL} {k : ByteArray} (h : Srt l) : Srt (cutK l k) := List.Pairwise.sublist List.filter_sublist h
theorem Cut_spec (m : Nat) (key : ByteArray) (l : KL) :
    Fsp Try.prog 40 [.pointer (some ⟨m, 0, none⟩), .string key] [MpA m l] fun u aa' => (∃ b, u = .bool b) ∧ aa' = [MpA m (cutK l key)] := by
  refine spec_of F40.ok rfl fun gl X => ?_
  dsimp only [List.cons_append, List.nil_append]
  refine en_map (by repeat (first | with_reducible exact Pk.h | with_reducible apply Pk.t)) ?_
  intro rt t hl hk hs hb
  subst hl
  (repeat (first | ((with_reducible apply t_run); exact rfl) | ((with_reducible apply t_p); exact rfl; exact rfl) | ((with_reducible apply t_gr); exact rfl) | ((with_reducible apply t_ge); exact rfl) | ((with_reducible apply t_ld); exact rfl; exact rfl; (repeat (first | with_reducible exact Pk.h | with_reducible apply Pk.t)); exact rfl) | ((with_reducible apply t_st); exact rfl; exact rfl; exact rfl; (repeat (first | with_reducible exact Pk.h | with_reducible apply Pk.t)); exact rfl; exact rfl; exact Nat.le_of_ble_eq_true rfl; exact rfl; (repeat (first | apply rk_nil | (apply rk_skip; exact rfl) | (apply rk_ld; exact rfl; (repeat (first | with_reducible exact Pk.h | with_reducible apply Pk.t)); exact rfl)))) | ((with_reducible apply t_nx F40.k); exact rfl; exact rfl) | with_reducible apply m_seq | (with_reducible apply m_reg mix) | with_reducible apply m_block | ((with_reducible apply m_ct); exact rfl) | ((with_reducible apply m_cf); exact rfl) | ((with_reducible apply m_skn); exact rfl) | ((with_reducible apply m_exn); exact rfl)))
  have hsz : sz t < 549755813888 := by rw [sz_len]; omega
  refine t_cl rfl rfl (cut_spec m key rt t rt _ hk hsz hs) (by repeat (first | apply Sx.nil | apply Pk.h | apply Sx.cons | apply Pk.t)) ?_
  rintro _ _ ⟨a', rfl, rfl⟩
  refine ⟨?_, ?_⟩ <;> (try dsimp only [List.cons_append, List.nil_append])
  · (repeat (first | apply rk_nil | (apply rk_skip; exact rfl) | (apply rk_ld; exact rfl; (repeat (first | with_reducible exact Pk.h | with_reducible apply Pk.t)); exact rfl)))
  (repeat (first | ((with_reducible apply t_run); exact rfl) | ((with_reducible apply t_p); exact rfl; exact rfl) | ((with_reducible apply t_gr); exact rfl) | ((with_reducible apply t_ge); exact rfl) | ((with_reducible apply t_ld); exact rfl; exact rfl; (repeat (first | with_reducible exact Pk.h | with_reducible apply Pk.t)); exact rfl) | ((with_reducible apply t_st); exact rfl; exact rfl; exact rfl; (repeat (first | with_reducible exact Pk.h | with_reducible apply Pk.t)); exact rfl; exact rfl; exact Nat.le_of_ble_eq_true rfl; exact rfl; (repeat (first | apply rk_nil | (apply rk_skip; exact rfl) | (apply rk_ld; exact rfl; (repeat (first | with_reducible exact Pk.h | with_reducible apply Pk.t)); exact rfl)))) | ((with_reducible apply t_nx F40.k); exact rfl; exact rfl) | with_reducible apply m_seq | (with_reducible apply m_reg mix) | with_reducible apply m_block | ((with_reducible apply m_ct); exact rfl) | ((with_reducible apply m_cf); exact rfl) | ((with_reducible apply m_skn); exact rfl) | ((with_reducible apply m_exn); exact rfl)))
  obtain ⟨h1, h2, h3, h4⟩ := cut_ok key t hk hsz hs
  obtain ⟨d, h5, h6⟩ := h4 (toL t).length (by rw [sz_len]; exact Nat.le_refl _) (by omega)
  have h7 := cutK_srt (k := key) hs
  have h8 : (cutK (toL t) key).length = (toL t).length - d := by
    have := sz_len t; have := sz_len (cutT key t); rw [← h2]; omega
  refine en_mkmap (m := m) (l := cutK (toL t) key) (rt := a') (t := cutT key t) h2 h1 h7 (by omega) (n := subN key t ((toL t).length : Nat)) (by rw [h6, h8]) (by repeat (first | apply Sx.nil | apply Pk.h | apply Sx.cons | apply Pk.t)) ?_
  apply m_ret
  · rfl
  · (repeat (first | apply rs_nil | (apply rs_tmp; exact rfl) | (apply rs_cell; exact rfl; (repeat (first | with_reducible exact Pk.h | with_reducible apply Pk.t)); exact rfl)))
  · exact ⟨⟨_, rfl⟩, rfl⟩
  · exact (by repeat (first | apply Sx.nil | apply Pk.h | apply Sx.cons | apply Pk.t))

end Go.Proofs.Ythcbefkgfhokoaa
