import Derived.Test.YthcbefkgfhokoaaB4
import Derived.Test.YthcbefkgfhokoaaFwF
/- The map: keys of a range; new ones; cut. -/
namespace Go.Proofs.Ythcbefkgfhokoaa
open Go Go.Dv
set_option maxRecDepth 100000
attribute [local irreducible] HTh HM En Fsp TrA Cl MpA OwS

theorem sl79 : slI Try.prog 79 = some (9, 1, 16, [.string ⟨#[]⟩]) := by kernel_rfl
def emp : ByteArray := ⟨#[]⟩
def inR (from_ to_ : ByteArray) (x : ByteArray) : Bool := !slt x from_ && (decide (to_ = emp) || slt x to_)
def rngT (from_ to_ : ByteArray) (t : Tr Ow) : List ByteArray := ((toL t).map (·.1)).filter (inR from_ to_)
def strs (l : List ByteArray) : List Value := l.map Value.string
theorem strs_app (l r : List ByteArray) : strs (l ++ r) = strs l ++ strs r := List.map_append ..

theorem rng_node {f o k : ByteArray} {v : Ow} {hi : Int} {l r : Tr Ow} : rngT f o (.node k v hi l r) = rngT f o l ++ (if inR f o k then [k] else []) ++ rngT f o r := by
  simp only [rngT, toL, List.map_append, List.map_cons, List.filter_append, List.filter_cons]
  split <;> simp
theorem rng_left {f o k : ByteArray} {l : Tr Ow} (h : slt f k = false) (hl : ∀ y ∈ toL l, slt y.1 k = true) : rngT f o l = [] := by
  simp only [rngT, List.filter_eq_nil_iff, List.mem_map]
  rintro x ⟨y, hy, rfl⟩
  have : slt y.1 f = true := by
    rcases slt_tri f k with h1 | h1 | h1
    · rw [h] at h1; cases h1
    · rw [h1]; exact hl y hy
    · exact slt_trans (hl y hy) h1
  simp [inR, this]
theorem rng_right {f o k : ByteArray} {r : Tr Ow} (h1 : o ≠ emp) (h2 : slt k o = false) (hr : ∀ y ∈ toL r, slt k y.1 = true) : rngT f o r = [] := by
  simp only [rngT, List.filter_eq_nil_iff, List.mem_map]
  rintro x ⟨y, hy, rfl⟩
  have : slt y.1 o = false := by
    cases h3 : slt y.1 o with
    | false => rfl
    | true => rw [slt_trans (hr y hy) h3] at h2; cases h2
  simp [inR, this, h1]
theorem rng_len {f o : ByteArray} {t : Tr Ow} : (rngT f o t).length ≤ sz t := by
  rw [sz_len, rngT]; exact Nat.le_trans (List.length_filter_le _ _) (by simp)

theorem not_max {l : Nat} (h : l < 2199023255552) : decide ((9223372036854775807 : Int) ≤ (l : Int)) = false := by
  rw [decide_eq_false_iff_not]; omega
theorem lt_max {l : Nat} (h : l < 2199023255552) : decide ((l : Int) < (9223372036854775807 : Int)) = true := by
  rw [decide_eq_true_iff]; omega

set_option maxHeartbeats 2000000 in
theorem keys_spec (f o : ByteArray) : ∀ (t : Tr Ow) (a : Option Addr) (sa : Option Addr) (sc : Nat) (ks : List ByteArray), Srt (toL t) → ks.length + sz t < 1099511627776 →
    Fsp Try.prog 52 [.pointer a, .slice sa ks.length sc, .string f, .string o, .int .i64 9223372036854775807] [TrA a t, OwS 9 1 (.slice sa ks.length sc) ks.length (strs ks)]
      fun u aa' => ∃ sa' sc', u = .slice sa' (ks ++ rngT f o t).length sc' ∧ aa' = [TrA a t, OwS 9 1 (.slice sa' (ks ++ rngT f o t).length sc') (ks ++ rngT f o t).length (strs (ks ++ rngT f o t))] := by
  intro t
  induction t with
  | nil =>
    intro a sa sc ks _ _
    have e1 : rngT f o .nil = [] := rfl
    rw [e1, List.append_nil]
    refine spec_of F52.ok rfl fun gl X => ?_
    dsimp only [List.cons_append, List.nil_append]
    refine en_nil (by repeat (first | with_reducible exact Pk.h | with_reducible apply Pk.t)) ?_
    rintro rfl
    (repeat (first | ((with_reducible apply t_run); exact rfl) | ((with_reducible apply t_p); exact rfl; exact rfl) | ((with_reducible apply t_gr); exact rfl) | ((with_reducible apply t_ge); exact rfl) | ((with_reducible apply t_ld); exact rfl; exact rfl; (repeat (first | with_reducible exact Pk.h | with_reducible apply Pk.t)); exact rfl) | ((with_reducible apply t_st); exact rfl; exact rfl; exact rfl; (repeat (first | with_reducible exact Pk.h | with_reducible apply Pk.t)); exact rfl; exact rfl; exact Nat.le_of_ble_eq_true rfl; exact rfl; (repeat (first | apply rk_nil | (apply rk_skip; exact rfl) | (apply rk_ld; exact rfl; (repeat (first | with_reducible exact Pk.h | with_reducible apply Pk.t)); exact rfl)))) | ((with_reducible apply t_nx F52.k); exact rfl; exact rfl) | with_reducible apply m_seq | (with_reducible apply m_reg mix) | with_reducible apply m_block | ((with_reducible apply m_ct); exact rfl) | ((with_reducible apply m_cf); exact rfl) | ((with_reducible apply m_skn); exact rfl) | ((with_reducible apply m_exn); exact rfl)))
    apply m_ret
    · rfl
    · (repeat (first | apply rs_nil | (apply rs_tmp; exact rfl) | (apply rs_cell; exact rfl; (repeat (first | with_reducible exact Pk.h | with_reducible apply Pk.t)); exact rfl)))
    · exact ⟨_, _, rfl, rfl⟩
    · exact (by repeat (first | apply Sx.nil | apply Pk.h | apply Sx.cons | apply Pk.t))
  | node k v hi l r ihl ihr =>
    intro a sa sc ks hsrt hsz
    have hsl : Srt (toL l) := (List.pairwise_append.1 hsrt).1
    have hsr : Srt (toL r) := (List.pairwise_cons.1 (List.pairwise_append.1 hsrt).2.1).2
    have hxr : ∀ y ∈ toL r, slt k y.1 = true := (List.pairwise_cons.1 (List.pairwise_append.1 hsrt).2.1).1
    have hlx : ∀ y ∈ toL l, slt y.1 k = true := fun y hy => (List.pairwise_append.1 hsrt).2.2 y hy (k, v) (by simp)
    simp only [sz] at hsz
    rw [rng_node]
    refine spec_of F52.ok rfl fun gl X => ?_
    dsimp only [List.cons_append, List.nil_append]
    refine en_tree (by repeat (first | with_reducible exact Pk.h | with_reducible apply Pk.t)) ?_
    rintro b al ar rfl
    (repeat (first | ((with_reducible apply t_run); exact rfl) | ((with_reducible apply t_p); exact rfl; exact rfl) | ((with_reducible apply t_gr); exact rfl) | ((with_reducible apply t_ge); exact rfl) | ((with_reducible apply t_ld); exact rfl; exact rfl; (repeat (first | with_reducible exact Pk.h | with_reducible apply Pk.t)); exact rfl) | ((with_reducible apply t_st); exact rfl; exact rfl; exact rfl; (repeat (first | with_reducible exact Pk.h | with_reducible apply Pk.t)); exact rfl; exact rfl; exact Nat.le_of_ble_eq_true rfl; exact rfl; (repeat (first | apply rk_nil | (apply rk_skip; exact rfl) | (apply rk_ld; exact rfl; (repeat (first | with_reducible exact Pk.h | with_reducible apply Pk.t)); exact rfl)))) | ((with_reducible apply t_nx F52.k); exact rfl; exact rfl) | with_reducible apply m_seq | (with_reducible apply m_reg mix) | with_reducible apply m_block | ((with_reducible apply m_ct); exact rfl) | ((with_reducible apply m_cf); exact rfl) | ((with_reducible apply m_skn); exact rfl) | ((with_reducible apply m_exn); exact rfl)))
    refine m_cond rfl (fun h1 => ?_) (fun h1 => ?_)
    · have := not_max (l := ks.length) (by omega)
      rw [this] at h1; cases h1
    clear h1
    refine m_skn rfl ?_
    let E : List ByteArray → Option Addr × Nat → Env := fun ks z => [(0, .pointer (some ⟨b, 0, none⟩)), (1, .slice z.1 ks.length z.2), (2, .string f), (3, .string o), (4, .int .i64 9223372036854775807)]
    let A : List ByteArray → Option Addr × Nat → List HP := fun ks z => [OwS 9 1 (.slice z.1 ks.length z.2) ks.length (strs ks), Cl b 92 (nodeCells k v hi al ar), TrA al l, TrA ar r, X]
    refine m_cut (α := Option Addr × Nat) (E (ks ++ rngT f o l)) (A (ks ++ rngT f o l)) (fun _ => True) ?_ ?_
    · (repeat (first | ((with_reducible apply t_run); exact rfl) | ((with_reducible apply t_p); exact rfl; exact rfl) | ((with_reducible apply t_gr); exact rfl) | ((with_reducible apply t_ge); exact rfl) | ((with_reducible apply t_ld); exact rfl; exact rfl; (repeat (first | with_reducible exact Pk.h | with_reducible apply Pk.t)); exact rfl) | ((with_reducible apply t_st); exact rfl; exact rfl; exact rfl; (repeat (first | with_reducible exact Pk.h | with_reducible apply Pk.t)); exact rfl; exact rfl; exact Nat.le_of_ble_eq_true rfl; exact rfl; (repeat (first | apply rk_nil | (apply rk_skip; exact rfl) | (apply rk_ld; exact rfl; (repeat (first | with_reducible exact Pk.h | with_reducible apply Pk.t)); exact rfl)))) | ((with_reducible apply t_nx F52.k); exact rfl; exact rfl) | with_reducible apply m_seq | (with_reducible apply m_reg mix) | with_reducible apply m_block | ((with_reducible apply m_ct); exact rfl) | ((with_reducible apply m_cf); exact rfl) | ((with_reducible apply m_skn); exact rfl) | ((with_reducible apply m_exn); exact rfl)))
      refine m_cond rfl (fun h1 => ?_) (fun h1 => ?_)
      · (repeat (first | ((with_reducible apply t_run); exact rfl) | ((with_reducible apply t_p); exact rfl; exact rfl) | ((with_reducible apply t_gr); exact rfl) | ((with_reducible apply t_ge); exact rfl) | ((with_reducible apply t_ld); exact rfl; exact rfl; (repeat (first | with_reducible exact Pk.h | with_reducible apply Pk.t)); exact rfl) | ((with_reducible apply t_st); exact rfl; exact rfl; exact rfl; (repeat (first | with_reducible exact Pk.h | with_reducible apply Pk.t)); exact rfl; exact rfl; exact Nat.le_of_ble_eq_true rfl; exact rfl; (repeat (first | apply rk_nil | (apply rk_skip; exact rfl) | (apply rk_ld; exact rfl; (repeat (first | with_reducible exact Pk.h | with_reducible apply Pk.t)); exact rfl)))) | ((with_reducible apply t_nx F52.k); exact rfl; exact rfl) | with_reducible apply m_seq | (with_reducible apply m_reg mix) | with_reducible apply m_block | ((with_reducible apply m_ct); exact rfl) | ((with_reducible apply m_cf); exact rfl) | ((with_reducible apply m_skn); exact rfl) | ((with_reducible apply m_exn); exact rfl)))
        refine t_cl rfl rfl (ihl al sa sc ks hsl (by omega)) (by repeat (first | apply Sx.nil | apply Pk.h | apply Sx.cons | apply Pk.t)) ?_
        rintro _ _ ⟨sa1, sc1, rfl, rfl⟩
        refine ⟨?_, ?_⟩ <;> (try dsimp only [List.cons_append, List.nil_append])
        · (repeat (first | apply rk_nil | (apply rk_skip; exact rfl) | (apply rk_ld; exact rfl; (repeat (first | with_reducible exact Pk.h | with_reducible apply Pk.t)); exact rfl)))
        (repeat (first | ((with_reducible apply t_run); exact rfl) | ((with_reducible apply t_p); exact rfl; exact rfl) | ((with_reducible apply t_gr); exact rfl) | ((with_reducible apply t_ge); exact rfl) | ((with_reducible apply t_ld); exact rfl; exact rfl; (repeat (first | with_reducible exact Pk.h | with_reducible apply Pk.t)); exact rfl) | ((with_reducible apply t_st); exact rfl; exact rfl; exact rfl; (repeat (first | with_reducible exact Pk.h | with_reducible apply Pk.t)); exact rfl; exact rfl; exact Nat.le_of_ble_eq_true rfl; exact rfl; (repeat (first | apply rk_nil | (apply rk_skip; exact rfl) | (apply rk_ld; exact rfl; (repeat (first | with_reducible exact Pk.h | with_reducible apply Pk.t)); exact rfl)))) | ((with_reducible apply t_nx F52.k); exact rfl; exact rfl) | with_reducible apply m_seq | (with_reducible apply m_reg mix) | with_reducible apply m_block | ((with_reducible apply m_ct); exact rfl) | ((with_reducible apply m_cf); exact rfl) | ((with_reducible apply m_skn); exact rfl) | ((with_reducible apply m_exn); exact rfl)))
        refine t_meet rfl (sa1, sc1) trivial [0, 1, 2, 3, 4] rfl (by repeat (first | apply Sx.nil | apply Pk.h | apply Sx.cons | apply Pk.t))
      · have e1 : rngT f o l = [] := rng_left h1 hlx
        refine m_meet rfl (sa, sc) trivial [0, 1, 2, 3, 4] (by rw [e1, List.append_nil]; rfl) (by rw [e1, List.append_nil]; exact (by repeat (first | apply Sx.nil | apply Pk.h | apply Sx.cons | apply Pk.t)))
    rintro ⟨sa1, sc1⟩ _
    have hl1 : (ks ++ rngT f o l).length ≤ ks.length + sz l := by have := rng_len (f := f) (o := o) (t := l); simp; omega
    rw [← List.append_assoc, ← List.append_assoc]
    generalize ks ++ rngT f o l = ks1 at hl1 ⊢
    refine m_cut (α := Option Addr × Nat) (E (ks1 ++ if inR f o k then [k] else [])) (A (ks1 ++ if inR f o k then [k] else [])) (fun _ => True) ?_ ?_
    · refine m_cut (α := Bool) (fun z => (58, .bool z) :: E ks1 (sa1, sc1)) (fun _ => A ks1 (sa1, sc1)) (fun z => z = inR f o k) ?_ ?_
      · simp only [E, A]
        (repeat (first | ((with_reducible apply t_run); exact rfl) | ((with_reducible apply t_p); exact rfl; exact rfl) | ((with_reducible apply t_gr); exact rfl) | ((with_reducible apply t_ge); exact rfl) | ((with_reducible apply t_ld); exact rfl; exact rfl; (repeat (first | with_reducible exact Pk.h | with_reducible apply Pk.t)); exact rfl) | ((with_reducible apply t_st); exact rfl; exact rfl; exact rfl; (repeat (first | with_reducible exact Pk.h | with_reducible apply Pk.t)); exact rfl; exact rfl; exact Nat.le_of_ble_eq_true rfl; exact rfl; (repeat (first | apply rk_nil | (apply rk_skip; exact rfl) | (apply rk_ld; exact rfl; (repeat (first | with_reducible exact Pk.h | with_reducible apply Pk.t)); exact rfl)))) | ((with_reducible apply t_nx F52.k); exact rfl; exact rfl) | with_reducible apply m_seq | (with_reducible apply m_reg mix) | with_reducible apply m_block | ((with_reducible apply m_ct); exact rfl) | ((with_reducible apply m_cf); exact rfl) | ((with_reducible apply m_skn); exact rfl) | ((with_reducible apply m_exn); exact rfl)))
        refine t_spl 41 rfl (fun q1 => ?_) (fun q1 => ?_)
        · (repeat (first | ((with_reducible apply t_run); exact rfl) | ((with_reducible apply t_p); exact rfl; exact rfl) | ((with_reducible apply t_gr); exact rfl) | ((with_reducible apply t_ge); exact rfl) | ((with_reducible apply t_ld); exact rfl; exact rfl; (repeat (first | with_reducible exact Pk.h | with_reducible apply Pk.t)); exact rfl) | ((with_reducible apply t_st); exact rfl; exact rfl; exact rfl; (repeat (first | with_reducible exact Pk.h | with_reducible apply Pk.t)); exact rfl; exact rfl; exact Nat.le_of_ble_eq_true rfl; exact rfl; (repeat (first | apply rk_nil | (apply rk_skip; exact rfl) | (apply rk_ld; exact rfl; (repeat (first | with_reducible exact Pk.h | with_reducible apply Pk.t)); exact rfl)))) | ((with_reducible apply t_nx F52.k); exact rfl; exact rfl) | with_reducible apply m_seq | (with_reducible apply m_reg mix) | with_reducible apply m_block | ((with_reducible apply m_ct); exact rfl) | ((with_reducible apply m_cf); exact rfl) | ((with_reducible apply m_skn); exact rfl) | ((with_reducible apply m_exn); exact rfl)))
          refine t_spl 44 rfl (fun q2 => ?_) (fun q2 => ?_)
          · (repeat (first | ((with_reducible apply t_run); exact rfl) | ((with_reducible apply t_p); exact rfl; exact rfl) | ((with_reducible apply t_gr); exact rfl) | ((with_reducible apply t_ge); exact rfl) | ((with_reducible apply t_ld); exact rfl; exact rfl; (repeat (first | with_reducible exact Pk.h | with_reducible apply Pk.t)); exact rfl) | ((with_reducible apply t_st); exact rfl; exact rfl; exact rfl; (repeat (first | with_reducible exact Pk.h | with_reducible apply Pk.t)); exact rfl; exact rfl; exact Nat.le_of_ble_eq_true rfl; exact rfl; (repeat (first | apply rk_nil | (apply rk_skip; exact rfl) | (apply rk_ld; exact rfl; (repeat (first | with_reducible exact Pk.h | with_reducible apply Pk.t)); exact rfl)))) | ((with_reducible apply t_nx F52.k); exact rfl; exact rfl) | with_reducible apply m_seq | (with_reducible apply m_reg mix) | with_reducible apply m_block | ((with_reducible apply m_ct); exact rfl) | ((with_reducible apply m_cf); exact rfl) | ((with_reducible apply m_skn); exact rfl) | ((with_reducible apply m_exn); exact rfl)))
            refine t_meet rfl (decide ((ks1.length : Int) < 9223372036854775807)) ?_ [58, 0, 1, 2, 3, 4] rfl (by repeat (first | apply Sx.nil | apply Pk.h | apply Sx.cons | apply Pk.t))
            rw [lt_max (by omega)]
            have q2' : o = emp := of_decide_eq_true q2
            simp [inR, q1, q2']
          · (repeat (first | ((with_reducible apply t_run); exact rfl) | ((with_reducible apply t_p); exact rfl; exact rfl) | ((with_reducible apply t_gr); exact rfl) | ((with_reducible apply t_ge); exact rfl) | ((with_reducible apply t_ld); exact rfl; exact rfl; (repeat (first | with_reducible exact Pk.h | with_reducible apply Pk.t)); exact rfl) | ((with_reducible apply t_st); exact rfl; exact rfl; exact rfl; (repeat (first | with_reducible exact Pk.h | with_reducible apply Pk.t)); exact rfl; exact rfl; exact Nat.le_of_ble_eq_true rfl; exact rfl; (repeat (first | apply rk_nil | (apply rk_skip; exact rfl) | (apply rk_ld; exact rfl; (repeat (first | with_reducible exact Pk.h | with_reducible apply Pk.t)); exact rfl)))) | ((with_reducible apply t_nx F52.k); exact rfl; exact rfl) | with_reducible apply m_seq | (with_reducible apply m_reg mix) | with_reducible apply m_block | ((with_reducible apply m_ct); exact rfl) | ((with_reducible apply m_cf); exact rfl) | ((with_reducible apply m_skn); exact rfl) | ((with_reducible apply m_exn); exact rfl)))
            have q2' : o ≠ emp := of_decide_eq_false q2
            refine t_spl 53 rfl (fun q3 => ?_) (fun q3 => ?_)
            · (repeat (first | ((with_reducible apply t_run); exact rfl) | ((with_reducible apply t_p); exact rfl; exact rfl) | ((with_reducible apply t_gr); exact rfl) | ((with_reducible apply t_ge); exact rfl) | ((with_reducible apply t_ld); exact rfl; exact rfl; (repeat (first | with_reducible exact Pk.h | with_reducible apply Pk.t)); exact rfl) | ((with_reducible apply t_st); exact rfl; exact rfl; exact rfl; (repeat (first | with_reducible exact Pk.h | with_reducible apply Pk.t)); exact rfl; exact rfl; exact Nat.le_of_ble_eq_true rfl; exact rfl; (repeat (first | apply rk_nil | (apply rk_skip; exact rfl) | (apply rk_ld; exact rfl; (repeat (first | with_reducible exact Pk.h | with_reducible apply Pk.t)); exact rfl)))) | ((with_reducible apply t_nx F52.k); exact rfl; exact rfl) | with_reducible apply m_seq | (with_reducible apply m_reg mix) | with_reducible apply m_block | ((with_reducible apply m_ct); exact rfl) | ((with_reducible apply m_cf); exact rfl) | ((with_reducible apply m_skn); exact rfl) | ((with_reducible apply m_exn); exact rfl)))
              refine t_meet rfl (decide ((ks1.length : Int) < 9223372036854775807)) ?_ [58, 0, 1, 2, 3, 4] rfl (by repeat (first | apply Sx.nil | apply Pk.h | apply Sx.cons | apply Pk.t))
              rw [lt_max (by omega)]
              simp [inR, q1, q3]
            · (repeat (first | ((with_reducible apply t_run); exact rfl) | ((with_reducible apply t_p); exact rfl; exact rfl) | ((with_reducible apply t_gr); exact rfl) | ((with_reducible apply t_ge); exact rfl) | ((with_reducible apply t_ld); exact rfl; exact rfl; (repeat (first | with_reducible exact Pk.h | with_reducible apply Pk.t)); exact rfl) | ((with_reducible apply t_st); exact rfl; exact rfl; exact rfl; (repeat (first | with_reducible exact Pk.h | with_reducible apply Pk.t)); exact rfl; exact rfl; exact Nat.le_of_ble_eq_true rfl; exact rfl; (repeat (first | apply rk_nil | (apply rk_skip; exact rfl) | (apply rk_ld; exact rfl; (repeat (first | with_reducible exact Pk.h | with_reducible apply Pk.t)); exact rfl)))) | ((with_reducible apply t_nx F52.k); exact rfl; exact rfl) | with_reducible apply m_seq | (with_reducible apply m_reg mix) | with_reducible apply m_block | ((with_reducible apply m_ct); exact rfl) | ((with_reducible apply m_cf); exact rfl) | ((with_reducible apply m_skn); exact rfl) | ((with_reducible apply m_exn); exact rfl)))
              refine t_meet rfl false ?_ [58, 0, 1, 2, 3, 4] rfl (by repeat (first | apply Sx.nil | apply Pk.h | apply Sx.cons | apply Pk.t))
              simp [inR, q2', q3]
        · (repeat (first | ((with_reducible apply t_run); exact rfl) | ((with_reducible apply t_p); exact rfl; exact rfl) | ((with_reducible apply t_gr); exact rfl) | ((with_reducible apply t_ge); exact rfl) | ((with_reducible apply t_ld); exact rfl; exact rfl; (repeat (first | with_reducible exact Pk.h | with_reducible apply Pk.t)); exact rfl) | ((with_reducible apply t_st); exact rfl; exact rfl; exact rfl; (repeat (first | with_reducible exact Pk.h | with_reducible apply Pk.t)); exact rfl; exact rfl; exact Nat.le_of_ble_eq_true rfl; exact rfl; (repeat (first | apply rk_nil | (apply rk_skip; exact rfl) | (apply rk_ld; exact rfl; (repeat (first | with_reducible exact Pk.h | with_reducible apply Pk.t)); exact rfl)))) | ((with_reducible apply t_nx F52.k); exact rfl; exact rfl) | with_reducible apply m_seq | (with_reducible apply m_reg mix) | with_reducible apply m_block | ((with_reducible apply m_ct); exact rfl) | ((with_reducible apply m_cf); exact rfl) | ((with_reducible apply m_skn); exact rfl) | ((with_reducible apply m_exn); exact rfl)))
          refine t_meet rfl false ?_ [58, 0, 1, 2, 3, 4] rfl (by repeat (first | apply Sx.nil | apply Pk.h | apply Sx.cons | apply Pk.t))
          simp [inR, q1]
      · rintro z rfl
        simp only [E, A]
        refine m_cond rfl (fun q => ?_) (fun q => ?_)
        · rw [if_pos q]
          (repeat (first | ((with_reducible apply t_run); exact rfl) | ((with_reducible apply t_p); exact rfl; exact rfl) | ((with_reducible apply t_gr); exact rfl) | ((with_reducible apply t_ge); exact rfl) | ((with_reducible apply t_ld); exact rfl; exact rfl; (repeat (first | with_reducible exact Pk.h | with_reducible apply Pk.t)); exact rfl) | ((with_reducible apply t_st); exact rfl; exact rfl; exact rfl; (repeat (first | with_reducible exact Pk.h | with_reducible apply Pk.t)); exact rfl; exact rfl; exact Nat.le_of_ble_eq_true rfl; exact rfl; (repeat (first | apply rk_nil | (apply rk_skip; exact rfl) | (apply rk_ld; exact rfl; (repeat (first | with_reducible exact Pk.h | with_reducible apply Pk.t)); exact rfl)))) | ((with_reducible apply t_nx F52.k); exact rfl; exact rfl) | with_reducible apply m_seq | (with_reducible apply m_reg mix) | with_reducible apply m_block | ((with_reducible apply m_ct); exact rfl) | ((with_reducible apply m_cf); exact rfl) | ((with_reducible apply m_skn); exact rfl) | ((with_reducible apply m_exn); exact rfl)))
          refine t_bsl sl79 rfl rfl rfl rfl rfl rfl rfl rfl fun bk => ⟨(by (repeat (first | apply rk_nil | (apply rk_skip; exact rfl) | (apply rk_ld; exact rfl; (repeat (first | with_reducible exact Pk.h | with_reducible apply Pk.t)); exact rfl)))), ?_⟩
          try dsimp only [List.cons_append, List.nil_append]
          refine t_app sl79 rfl rfl rfl (by repeat (first | with_reducible exact Pk.h | with_reducible apply Pk.t)) (by repeat (first | with_reducible exact Pk.h | with_reducible apply Pk.t)) rfl (by decide) (by decide) rfl rfl rfl (by omega) (by omega) fun v' => ⟨(by (repeat (first | apply rk_nil | (apply rk_skip; exact rfl) | (apply rk_ld; exact rfl; (repeat (first | with_reducible exact Pk.h | with_reducible apply Pk.t)); exact rfl)))), ?_⟩
          try dsimp only [List.cons_append, List.nil_append]
          refine en_x (x := OwS 9 1 v' (ks1.length + 1) _) (OwS 9 1 v' (ks1 ++ [k]).length (strs (ks1 ++ [k]))) (by repeat (first | with_reducible exact Pk.h | with_reducible apply Pk.t)) (by rw [strs_app, List.length_append]; rfl) ?_
          refine en_ows (v := v') (by repeat (first | with_reducible exact Pk.h | with_reducible apply Pk.t)) ?_
          rintro sa2 sc2 rfl
          (repeat (first | ((with_reducible apply t_run); exact rfl) | ((with_reducible apply t_p); exact rfl; exact rfl) | ((with_reducible apply t_gr); exact rfl) | ((with_reducible apply t_ge); exact rfl) | ((with_reducible apply t_ld); exact rfl; exact rfl; (repeat (first | with_reducible exact Pk.h | with_reducible apply Pk.t)); exact rfl) | ((with_reducible apply t_st); exact rfl; exact rfl; exact rfl; (repeat (first | with_reducible exact Pk.h | with_reducible apply Pk.t)); exact rfl; exact rfl; exact Nat.le_of_ble_eq_true rfl; exact rfl; (repeat (first | apply rk_nil | (apply rk_skip; exact rfl) | (apply rk_ld; exact rfl; (repeat (first | with_reducible exact Pk.h | with_reducible apply Pk.t)); exact rfl)))) | ((with_reducible apply t_nx F52.k); exact rfl; exact rfl) | with_reducible apply m_seq | (with_reducible apply m_reg mix) | with_reducible apply m_block | ((with_reducible apply m_ct); exact rfl) | ((with_reducible apply m_cf); exact rfl) | ((with_reducible apply m_skn); exact rfl) | ((with_reducible apply m_exn); exact rfl)))
          refine t_meet rfl (sa2, sc2) trivial [0, 1, 2, 3, 4] rfl (by repeat (first | apply Sx.nil | apply Pk.h | apply Sx.cons | apply Pk.t))
        · rw [if_neg (by simp [q]), List.append_nil]
          refine m_meet rfl (sa1, sc1) trivial [0, 1, 2, 3, 4] rfl (by repeat (first | apply Sx.nil | apply Pk.h | apply Sx.cons | apply Pk.t))
    rintro ⟨sa2, sc2⟩ _
    have hl2 : (ks1 ++ if inR f o k then [k] else []).length ≤ ks.length + sz l + 1 := by
      rw [List.length_append]; split <;> simp <;> omega
    generalize ks1 ++ (if inR f o k then [k] else []) = ks2 at hl2 ⊢
    refine m_cut (α := Option Addr × Nat) (E (ks2 ++ rngT f o r)) (A (ks2 ++ rngT f o r)) (fun _ => True) ?_ ?_
    · simp only [E, A]
      (repeat (first | ((with_reducible apply t_run); exact rfl) | ((with_reducible apply t_p); exact rfl; exact rfl) | ((with_reducible apply t_gr); exact rfl) | ((with_reducible apply t_ge); exact rfl) | ((with_reducible apply t_ld); exact rfl; exact rfl; (repeat (first | with_reducible exact Pk.h | with_reducible apply Pk.t)); exact rfl) | ((with_reducible apply t_st); exact rfl; exact rfl; exact rfl; (repeat (first | with_reducible exact Pk.h | with_reducible apply Pk.t)); exact rfl; exact rfl; exact Nat.le_of_ble_eq_true rfl; exact rfl; (repeat (first | apply rk_nil | (apply rk_skip; exact rfl) | (apply rk_ld; exact rfl; (repeat (first | with_reducible exact Pk.h | with_reducible apply Pk.t)); exact rfl)))) | ((with_reducible apply t_nx F52.k); exact rfl; exact rfl) | with_reducible apply m_seq | (with_reducible apply m_reg mix) | with_reducible apply m_block | ((with_reducible apply m_ct); exact rfl) | ((with_reducible apply m_cf); exact rfl) | ((with_reducible apply m_skn); exact rfl) | ((with_reducible apply m_exn); exact rfl)))
      refine t_spl 68 rfl (fun q1 => ?_) (fun q1 => ?_)
      · (repeat (first | ((with_reducible apply t_run); exact rfl) | ((with_reducible apply t_p); exact rfl; exact rfl) | ((with_reducible apply t_gr); exact rfl) | ((with_reducible apply t_ge); exact rfl) | ((with_reducible apply t_ld); exact rfl; exact rfl; (repeat (first | with_reducible exact Pk.h | with_reducible apply Pk.t)); exact rfl) | ((with_reducible apply t_st); exact rfl; exact rfl; exact rfl; (repeat (first | with_reducible exact Pk.h | with_reducible apply Pk.t)); exact rfl; exact rfl; exact Nat.le_of_ble_eq_true rfl; exact rfl; (repeat (first | apply rk_nil | (apply rk_skip; exact rfl) | (apply rk_ld; exact rfl; (repeat (first | with_reducible exact Pk.h | with_reducible apply Pk.t)); exact rfl)))) | ((with_reducible apply t_nx F52.k); exact rfl; exact rfl) | with_reducible apply m_seq | (with_reducible apply m_reg mix) | with_reducible apply m_block | ((with_reducible apply m_ct); exact rfl) | ((with_reducible apply m_cf); exact rfl) | ((with_reducible apply m_skn); exact rfl) | ((with_reducible apply m_exn); exact rfl)))
        refine t_cl rfl rfl (ihr ar sa2 sc2 ks2 hsr (by omega)) (by repeat (first | apply Sx.nil | apply Pk.h | apply Sx.cons | apply Pk.t)) ?_
        rintro _ _ ⟨sa3, sc3, rfl, rfl⟩
        refine ⟨?_, ?_⟩ <;> (try dsimp only [List.cons_append, List.nil_append])
        · (repeat (first | apply rk_nil | (apply rk_skip; exact rfl) | (apply rk_ld; exact rfl; (repeat (first | with_reducible exact Pk.h | with_reducible apply Pk.t)); exact rfl)))
        (repeat (first | ((with_reducible apply t_run); exact rfl) | ((with_reducible apply t_p); exact rfl; exact rfl) | ((with_reducible apply t_gr); exact rfl) | ((with_reducible apply t_ge); exact rfl) | ((with_reducible apply t_ld); exact rfl; exact rfl; (repeat (first | with_reducible exact Pk.h | with_reducible apply Pk.t)); exact rfl) | ((with_reducible apply t_st); exact rfl; exact rfl; exact rfl; (repeat (first | with_reducible exact Pk.h | with_reducible apply Pk.t)); exact rfl; exact rfl; exact Nat.le_of_ble_eq_true rfl; exact rfl; (repeat (first | apply rk_nil | (apply rk_skip; exact rfl) | (apply rk_ld; exact rfl; (repeat (first | with_reducible exact Pk.h | with_reducible apply Pk.t)); exact rfl)))) | ((with_reducible apply t_nx F52.k); exact rfl; exact rfl) | with_reducible apply m_seq | (with_reducible apply m_reg mix) | with_reducible apply m_block | ((with_reducible apply m_ct); exact rfl) | ((with_reducible apply m_cf); exact rfl) | ((with_reducible apply m_skn); exact rfl) | ((with_reducible apply m_exn); exact rfl)))
        refine t_meet rfl (sa3, sc3) trivial [0, 1, 2, 3, 4] rfl (by repeat (first | apply Sx.nil | apply Pk.h | apply Sx.cons | apply Pk.t))
      · (repeat (first | ((with_reducible apply t_run); exact rfl) | ((with_reducible apply t_p); exact rfl; exact rfl) | ((with_reducible apply t_gr); exact rfl) | ((with_reducible apply t_ge); exact rfl) | ((with_reducible apply t_ld); exact rfl; exact rfl; (repeat (first | with_reducible exact Pk.h | with_reducible apply Pk.t)); exact rfl) | ((with_reducible apply t_st); exact rfl; exact rfl; exact rfl; (repeat (first | with_reducible exact Pk.h | with_reducible apply Pk.t)); exact rfl; exact rfl; exact Nat.le_of_ble_eq_true rfl; exact rfl; (repeat (first | apply rk_nil | (apply rk_skip; exact rfl) | (apply rk_ld; exact rfl; (repeat (first | with_reducible exact Pk.h | with_reducible apply Pk.t)); exact rfl)))) | ((with_reducible apply t_nx F52.k); exact rfl; exact rfl) | with_reducible apply m_seq | (with_reducible apply m_reg mix) | with_reducible apply m_block | ((with_reducible apply m_ct); exact rfl) | ((with_reducible apply m_cf); exact rfl) | ((with_reducible apply m_skn); exact rfl) | ((with_reducible apply m_exn); exact rfl)))
        refine m_cond rfl (fun q2 => ?_) (fun q2 => ?_)
        · (repeat (first | ((with_reducible apply t_run); exact rfl) | ((with_reducible apply t_p); exact rfl; exact rfl) | ((with_reducible apply t_gr); exact rfl) | ((with_reducible apply t_ge); exact rfl) | ((with_reducible apply t_ld); exact rfl; exact rfl; (repeat (first | with_reducible exact Pk.h | with_reducible apply Pk.t)); exact rfl) | ((with_reducible apply t_st); exact rfl; exact rfl; exact rfl; (repeat (first | with_reducible exact Pk.h | with_reducible apply Pk.t)); exact rfl; exact rfl; exact Nat.le_of_ble_eq_true rfl; exact rfl; (repeat (first | apply rk_nil | (apply rk_skip; exact rfl) | (apply rk_ld; exact rfl; (repeat (first | with_reducible exact Pk.h | with_reducible apply Pk.t)); exact rfl)))) | ((with_reducible apply t_nx F52.k); exact rfl; exact rfl) | with_reducible apply m_seq | (with_reducible apply m_reg mix) | with_reducible apply m_block | ((with_reducible apply m_ct); exact rfl) | ((with_reducible apply m_cf); exact rfl) | ((with_reducible apply m_skn); exact rfl) | ((with_reducible apply m_exn); exact rfl)))
          refine t_cl rfl rfl (ihr ar sa2 sc2 ks2 hsr (by omega)) (by repeat (first | apply Sx.nil | apply Pk.h | apply Sx.cons | apply Pk.t)) ?_
          rintro _ _ ⟨sa3, sc3, rfl, rfl⟩
          refine ⟨?_, ?_⟩ <;> (try dsimp only [List.cons_append, List.nil_append])
          · (repeat (first | apply rk_nil | (apply rk_skip; exact rfl) | (apply rk_ld; exact rfl; (repeat (first | with_reducible exact Pk.h | with_reducible apply Pk.t)); exact rfl)))
          (repeat (first | ((with_reducible apply t_run); exact rfl) | ((with_reducible apply t_p); exact rfl; exact rfl) | ((with_reducible apply t_gr); exact rfl) | ((with_reducible apply t_ge); exact rfl) | ((with_reducible apply t_ld); exact rfl; exact rfl; (repeat (first | with_reducible exact Pk.h | with_reducible apply Pk.t)); exact rfl) | ((with_reducible apply t_st); exact rfl; exact rfl; exact rfl; (repeat (first | with_reducible exact Pk.h | with_reducible apply Pk.t)); exact rfl; exact rfl; exact Nat.le_of_ble_eq_true rfl; exact rfl; (repeat (first | apply rk_nil | (apply rk_skip; exact rfl) | (apply rk_ld; exact rfl; (repeat (first | with_reducible exact Pk.h | with_reducible apply Pk.t)); exact rfl)))) | ((with_reducible apply t_nx F52.k); exact rfl; exact rfl) | with_reducible apply m_seq | (with_reducible apply m_reg mix) | with_reducible apply m_block | ((with_reducible apply m_ct); exact rfl) | ((with_reducible apply m_cf); exact rfl) | ((with_reducible apply m_skn); exact rfl) | ((with_reducible apply m_exn); exact rfl)))
          refine t_meet rfl (sa3, sc3) trivial [0, 1, 2, 3, 4] rfl (by repeat (first | apply Sx.nil | apply Pk.h | apply Sx.cons | apply Pk.t))
        · have e1 : rngT f o r = [] := rng_right (of_decide_eq_false q1) q2 hxr
          refine m_meet rfl (sa2, sc2) trivial [0, 1, 2, 3, 4] (by rw [e1, List.append_nil]; rfl) (by rw [e1, List.append_nil]; exact (by repeat (first | apply Sx.nil | apply Pk.h | apply Sx.cons | apply Pk.t)))
    rintro ⟨sa3, sc3⟩ _
    simp only [E, A]
    (repeat (first | ((with_reducible apply t_run); exact rfl) | ((with_reducible apply t_p); exact rfl; exact rfl) | ((with_reducible apply t_gr); exact rfl) | ((with_reducible apply t_ge); exact rfl) | ((with_reducible apply t_ld); exact rfl; exact rfl; (repeat (first | with_reducible exact Pk.h | with_reducible apply Pk.t)); exact rfl) | ((with_reducible apply t_st); exact rfl; exact rfl; exact rfl; (repeat (first | with_reducible exact Pk.h | with_reducible apply Pk.t)); exact rfl; exact rfl; exact Nat.le_of_ble_eq_true rfl; exact rfl; (repeat (first | apply rk_nil | (apply rk_skip; exact rfl) | (apply rk_ld; exact rfl; (repeat (first | with_reducible exact Pk.h | with_reducible apply Pk.t)); exact rfl)))) | ((with_reducible apply t_nx F52.k); exact rfl; exact rfl) | with_reducible apply m_seq | (with_reducible apply m_reg mix) | with_reducible apply m_block | ((with_reducible apply m_ct); exact rfl) | ((with_reducible apply m_cf); exact rfl) | ((with_reducible apply m_skn); exact rfl) | ((with_reducible apply m_exn); exact rfl)))
    refine en_node (by repeat (first | apply Sx.nil | apply Pk.h | apply Sx.cons | apply Pk.t)) ?_
    apply m_ret
    · rfl
    · (repeat (first | apply rs_nil | (apply rs_tmp; exact rfl) | (apply rs_cell; exact rfl; (repeat (first | with_reducible exact Pk.h | with_reducible apply Pk.t)); exact rfl)))
    · exact ⟨_, _, rfl, rfl⟩
    · exact (by repeat (first | apply Sx.nil | apply Pk.h | apply Sx.cons | apply Pk.t))
end Go.Proofs.Ythcbefkgfhokoaa
