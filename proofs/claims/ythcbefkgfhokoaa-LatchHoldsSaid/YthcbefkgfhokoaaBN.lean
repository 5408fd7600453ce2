import Derived.Test.YthcbefkgfhokoaaBM
import Derived.Test.YthcbefkgfhokoaaA2
/- awake. -/
namespace Go.Proofs.Ythcbefkgfhokoaa
open Go Go.Dv
open Classical
set_option maxRecDepth 100000
attribute [local irreducible] HTh HM En Fsp TrA Cl MpA OwS RdS MpO TabA HsA TabL

theorem rds_none {R : HP} {k c : Nat} {a : Option Addr} : RdS R k (.slice a 0 c) [] := by
  unfold RdS
  exact ⟨by simp, .inl ⟨rfl, _, _, rfl⟩⟩
theorem tl1 (d : UInt8) : ByteArray.toList ⟨#[d]⟩ = [d] := by rw [ByteArray.toList_eq]
theorem slt_1 (c d : UInt8) : slt ⟨#[c]⟩ ⟨#[d]⟩ = decide (c < d) := by
  unfold slt
  rw [tl1, tl1]
  simp [Op.bytesLess]
def kA : ByteArray := ⟨#[97]⟩
def kB : ByteArray := ⟨#[98]⟩
theorem slt_ab : slt kA kB = true := by rw [kA, kB, slt_1]; decide
theorem slt_ba : slt kB kA = false := by rw [kA, kB, slt_1]; decide
theorem ne_ab : ¬ kA = kB := by decide
theorem ne_ba : ¬ kB = kA := by decide
def wA : Wr := ⟨kA, emp, false⟩
def wB : Wr := ⟨kB, emp, false⟩
def hdA : Hd := ⟨⟨5, 0⟩, ⟨6, 0⟩, kA⟩
def hdB : Hd := ⟨⟨7, 0⟩, ⟨8, 0⟩, kB⟩
def LA : List In := [mkI ⟨1, 0⟩ hdA wA, mkI ⟨1, 0⟩ hdA wB]
theorem rightA : rightL [wA, wB] = true := by decide
theorem rightB : rightL [wB] = true := by decide
theorem layA_ok : layE [] ⟨1, 0⟩ hdA [wA, wB] = 0 ∧ layL [] ⟨1, 0⟩ hdA [wA, wB] = LA := by
  have h1 : layA hdA.start hdA.min hdA.prim [wA, wB] = true := by
    unfold layA
    rw [rightA]; decide
  have h2 : layB [] ⟨1, 0⟩ [wA, wB] = false := by decide
  refine ⟨by simp [layE, h1, h2], ?_⟩
  rw [layL, h1, h2]
  show putL (putL [] (mkI ⟨1, 0⟩ hdA wA)) (mkI ⟨1, 0⟩ hdA wB) = _
  have e1 : slt (mkI ⟨1, 0⟩ hdA wA).w.key (mkI ⟨1, 0⟩ hdA wB).w.key = true := slt_ab
  simp only [putL, e1, if_true]
  rfl
theorem layB_no : layE LA ⟨2, 0⟩ hdB [wB] = 40 ∧ layL LA ⟨2, 0⟩ hdB [wB] = LA := by
  have h1 : layA hdB.start hdB.min hdB.prim [wB] = true := by
    unfold layA
    rw [rightB]; decide
  have h2 : layB LA ⟨2, 0⟩ [wB] = true := by decide
  exact ⟨by simp [layE, h1, h2], by simp [layL, h1, h2]⟩
theorem inR_emp (k : ByteArray) : inR emp emp k = true := by simp [inR, slt_emp]
theorem fst5 : fstL LA emp emp ⟨5, 0⟩ [] = none := by
  unfold fstL LA
  simp only [List.find?_cons, inR_emp, Bool.true_and]
  decide
theorem fst6 : fstL LA emp emp ⟨6, 0⟩ [] = some (mkI ⟨1, 0⟩ hdA wA) := by
  unfold fstL LA
  simp only [List.find?_cons, inR_emp, Bool.true_and]
  have : stands ⟨6, 0⟩ [] (mkI ⟨1, 0⟩ hdA wA) = true := by decide
  rw [this]

theorem awake_spec : Fsp Try.prog 8 [] [] fun u aa' => u = .bool true ∧ aa' = [] := by
  refine spec_of F8.ok rfl fun gl X => ?_
  dsimp only [List.cons_append, List.nil_append]
  (repeat (first | ((with_reducible apply t_run); exact rfl) | ((with_reducible apply t_p); exact rfl; exact rfl) | ((with_reducible apply t_gr); exact rfl) | ((with_reducible apply t_ge); exact rfl) | ((with_reducible apply t_ld); exact rfl; exact rfl; (repeat (first | with_reducible exact Pk.h | with_reducible apply Pk.t)); exact rfl) | ((with_reducible apply t_st); exact rfl; exact rfl; exact rfl; (repeat (first | with_reducible exact Pk.h | with_reducible apply Pk.t)); exact rfl; exact rfl; exact Nat.le_of_ble_eq_true rfl; exact rfl; (repeat (first | apply rk_nil | (apply rk_skip; exact rfl) | (apply rk_ld; exact rfl; (repeat (first | with_reducible exact Pk.h | with_reducible apply Pk.t)); exact rfl)))) | ((with_reducible apply t_nx F8.k); exact rfl; exact rfl) | with_reducible apply m_seq | (with_reducible apply m_reg mix) | with_reducible apply m_block | ((with_reducible apply m_ct); exact rfl) | ((with_reducible apply m_cf); exact rfl) | ((with_reducible apply m_skn); exact rfl) | ((with_reducible apply m_exn); exact rfl)))
  refine t_cl rfl rfl (New_L) (by repeat (first | apply Sx.nil | apply Pk.h | apply Sx.cons | apply Pk.t)) ?_
  rintro _ _ ⟨t, rfl, rfl⟩
  refine ⟨?_, ?_⟩ <;> (try dsimp only [List.cons_append, List.nil_append])
  · (repeat (first | apply rk_nil | (apply rk_skip; exact rfl) | (apply rk_ld; exact rfl; (repeat (first | with_reducible exact Pk.h | with_reducible apply Pk.t)); exact rfl)))
  (repeat (first | ((with_reducible apply t_run); exact rfl) | ((with_reducible apply t_p); exact rfl; exact rfl) | ((with_reducible apply t_gr); exact rfl) | ((with_reducible apply t_ge); exact rfl) | ((with_reducible apply t_ld); exact rfl; exact rfl; (repeat (first | with_reducible exact Pk.h | with_reducible apply Pk.t)); exact rfl) | ((with_reducible apply t_st); exact rfl; exact rfl; exact rfl; (repeat (first | with_reducible exact Pk.h | with_reducible apply Pk.t)); exact rfl; exact rfl; exact Nat.le_of_ble_eq_true rfl; exact rfl; (repeat (first | apply rk_nil | (apply rk_skip; exact rfl) | (apply rk_ld; exact rfl; (repeat (first | with_reducible exact Pk.h | with_reducible apply Pk.t)); exact rfl)))) | ((with_reducible apply t_nx F8.k); exact rfl; exact rfl) | with_reducible apply m_seq | (with_reducible apply m_reg mix) | with_reducible apply m_block | ((with_reducible apply m_ct); exact rfl) | ((with_reducible apply m_cf); exact rfl) | ((with_reducible apply m_skn); exact rfl) | ((with_reducible apply m_exn); exact rfl)))
  refine t_al rfl fun b2 => ⟨(by (repeat (first | apply rk_nil | (apply rk_skip; exact rfl) | (apply rk_ld; exact rfl; (repeat (first | with_reducible exact Pk.h | with_reducible apply Pk.t)); exact rfl)))), ?_⟩
  refine t_al rfl fun b3 => ⟨(by (repeat (first | apply rk_nil | (apply rk_skip; exact rfl) | (apply rk_ld; exact rfl; (repeat (first | with_reducible exact Pk.h | with_reducible apply Pk.t)); exact rfl)))), ?_⟩
  (repeat (first | ((with_reducible apply t_run); exact rfl) | ((with_reducible apply t_p); exact rfl; exact rfl) | ((with_reducible apply t_gr); exact rfl) | ((with_reducible apply t_ge); exact rfl) | ((with_reducible apply t_ld); exact rfl; exact rfl; (repeat (first | with_reducible exact Pk.h | with_reducible apply Pk.t)); exact rfl) | ((with_reducible apply t_st); exact rfl; exact rfl; exact rfl; (repeat (first | with_reducible exact Pk.h | with_reducible apply Pk.t)); exact rfl; exact rfl; exact Nat.le_of_ble_eq_true rfl; exact rfl; (repeat (first | apply rk_nil | (apply rk_skip; exact rfl) | (apply rk_ld; exact rfl; (repeat (first | with_reducible exact Pk.h | with_reducible apply Pk.t)); exact rfl)))) | ((with_reducible apply t_nx F8.k); exact rfl; exact rfl) | with_reducible apply m_seq | (with_reducible apply m_reg mix) | with_reducible apply m_block | ((with_reducible apply m_ct); exact rfl) | ((with_reducible apply m_cf); exact rfl) | ((with_reducible apply m_skn); exact rfl) | ((with_reducible apply m_exn); exact rfl)))
  refine t_bsl sl29 rfl rfl rfl rfl rfl rfl rfl rfl fun bs => ⟨(by (repeat (first | apply rk_nil | (apply rk_skip; exact rfl) | (apply rk_ld; exact rfl; (repeat (first | with_reducible exact Pk.h | with_reducible apply Pk.t)); exact rfl)))), ?_⟩
  try dsimp only [List.cons_append, List.nil_append]
  have hl1 := fun R => Lay_L R t [] ⟨1, 0⟩ hdA (.slice (some ⟨bs, 0, none⟩) 2 2) [wA, wB]
  rw [layA_ok.1, layA_ok.2] at hl1
  refine t_cl rfl rfl (hl1 (Cl bs 39 [.string kA, .string emp, .bool false, .string kB, .string emp, .bool false]) (rds_cl (b := bs) (T := 39) (k := 3) (c := 2) (xs := wcs [wA, wB]) (by simp [wcs, Wr.cells])) (by decide) (by decide) ⟨⟨by decide, by decide⟩, ⟨by decide, by decide⟩⟩ ⟨by decide, by decide⟩) (by repeat (first | apply Sx.nil | apply Pk.h | apply Sx.cons | apply Pk.t)) ?_
  rintro _ _ ⟨rfl, rfl⟩
  refine ⟨?_, ?_⟩ <;> (try dsimp only [List.cons_append, List.nil_append])
  · (repeat (first | apply rk_nil | (apply rk_skip; exact rfl) | (apply rk_ld; exact rfl; (repeat (first | with_reducible exact Pk.h | with_reducible apply Pk.t)); exact rfl)))
  (repeat (first | ((with_reducible apply t_run); exact rfl) | ((with_reducible apply t_p); exact rfl; exact rfl) | ((with_reducible apply t_gr); exact rfl) | ((with_reducible apply t_ge); exact rfl) | ((with_reducible apply t_ld); exact rfl; exact rfl; (repeat (first | with_reducible exact Pk.h | with_reducible apply Pk.t)); exact rfl) | ((with_reducible apply t_st); exact rfl; exact rfl; exact rfl; (repeat (first | with_reducible exact Pk.h | with_reducible apply Pk.t)); exact rfl; exact rfl; exact Nat.le_of_ble_eq_true rfl; exact rfl; (repeat (first | apply rk_nil | (apply rk_skip; exact rfl) | (apply rk_ld; exact rfl; (repeat (first | with_reducible exact Pk.h | with_reducible apply Pk.t)); exact rfl)))) | ((with_reducible apply t_nx F8.k); exact rfl; exact rfl) | with_reducible apply m_seq | (with_reducible apply m_reg mix) | with_reducible apply m_block | ((with_reducible apply m_ct); exact rfl) | ((with_reducible apply m_cf); exact rfl) | ((with_reducible apply m_skn); exact rfl) | ((with_reducible apply m_exn); exact rfl)))
  refine t_bsl sl29 rfl rfl rfl rfl rfl rfl rfl rfl fun bs2 => ⟨(by (repeat (first | apply rk_nil | (apply rk_skip; exact rfl) | (apply rk_ld; exact rfl; (repeat (first | with_reducible exact Pk.h | with_reducible apply Pk.t)); exact rfl)))), ?_⟩
  try dsimp only [List.cons_append, List.nil_append]
  have hl2 := fun R => Lay_L R t LA ⟨2, 0⟩ hdB (.slice (some ⟨bs2, 0, none⟩) 1 1) [wB]
  rw [layB_no.1, layB_no.2] at hl2
  refine t_cl rfl rfl (hl2 (Cl bs2 39 [.string kB, .string emp, .bool false]) (rds_cl (b := bs2) (T := 39) (k := 3) (c := 1) (xs := wcs [wB]) (by simp [wcs, Wr.cells])) (by decide) (by decide) ⟨⟨by decide, by decide⟩, ⟨by decide, by decide⟩⟩ ⟨by decide, by decide⟩) (by repeat (first | apply Sx.nil | apply Pk.h | apply Sx.cons | apply Pk.t)) ?_
  rintro _ _ ⟨rfl, rfl⟩
  refine ⟨?_, ?_⟩ <;> (try dsimp only [List.cons_append, List.nil_append])
  · (repeat (first | apply rk_nil | (apply rk_skip; exact rfl) | (apply rk_ld; exact rfl; (repeat (first | with_reducible exact Pk.h | with_reducible apply Pk.t)); exact rfl)))
  (repeat (first | ((with_reducible apply t_run); exact rfl) | ((with_reducible apply t_p); exact rfl; exact rfl) | ((with_reducible apply t_gr); exact rfl) | ((with_reducible apply t_ge); exact rfl) | ((with_reducible apply t_ld); exact rfl; exact rfl; (repeat (first | with_reducible exact Pk.h | with_reducible apply Pk.t)); exact rfl) | ((with_reducible apply t_st); exact rfl; exact rfl; exact rfl; (repeat (first | with_reducible exact Pk.h | with_reducible apply Pk.t)); exact rfl; exact rfl; exact Nat.le_of_ble_eq_true rfl; exact rfl; (repeat (first | apply rk_nil | (apply rk_skip; exact rfl) | (apply rk_ld; exact rfl; (repeat (first | with_reducible exact Pk.h | with_reducible apply Pk.t)); exact rfl)))) | ((with_reducible apply t_nx F8.k); exact rfl; exact rfl) | with_reducible apply m_seq | (with_reducible apply m_reg mix) | with_reducible apply m_block | ((with_reducible apply m_ct); exact rfl) | ((with_reducible apply m_cf); exact rfl) | ((with_reducible apply m_skn); exact rfl) | ((with_reducible apply m_exn); exact rfl)))
  have hf1 := fun R => First_L R t LA emp emp ⟨5, 0⟩ (.slice none 0 0) [] rds_none (by decide) (by decide)
  rw [fst5] at hf1
  refine t_cl rfl rfl (hf1 (Cl bs2 39 [.string kB, .string emp, .bool false])) (by repeat (first | apply Sx.nil | apply Pk.h | apply Sx.cons | apply Pk.t)) ?_
  rintro _ _ ⟨rfl, rfl⟩
  refine ⟨?_, ?_⟩ <;> (try dsimp only [List.cons_append, List.nil_append])
  · (repeat (first | apply rk_nil | (apply rk_skip; exact rfl) | (apply rk_ld; exact rfl; (repeat (first | with_reducible exact Pk.h | with_reducible apply Pk.t)); exact rfl)))
  (repeat (first | ((with_reducible apply t_run); exact rfl) | ((with_reducible apply t_p); exact rfl; exact rfl) | ((with_reducible apply t_gr); exact rfl) | ((with_reducible apply t_ge); exact rfl) | ((with_reducible apply t_ld); exact rfl; exact rfl; (repeat (first | with_reducible exact Pk.h | with_reducible apply Pk.t)); exact rfl) | ((with_reducible apply t_st); exact rfl; exact rfl; exact rfl; (repeat (first | with_reducible exact Pk.h | with_reducible apply Pk.t)); exact rfl; exact rfl; exact Nat.le_of_ble_eq_true rfl; exact rfl; (repeat (first | apply rk_nil | (apply rk_skip; exact rfl) | (apply rk_ld; exact rfl; (repeat (first | with_reducible exact Pk.h | with_reducible apply Pk.t)); exact rfl)))) | ((with_reducible apply t_nx F8.k); exact rfl; exact rfl) | with_reducible apply m_seq | (with_reducible apply m_reg mix) | with_reducible apply m_block | ((with_reducible apply m_ct); exact rfl) | ((with_reducible apply m_cf); exact rfl) | ((with_reducible apply m_skn); exact rfl) | ((with_reducible apply m_exn); exact rfl)))
  refine t_al rfl fun b6 => ⟨(by (repeat (first | apply rk_nil | (apply rk_skip; exact rfl) | (apply rk_ld; exact rfl; (repeat (first | with_reducible exact Pk.h | with_reducible apply Pk.t)); exact rfl)))), ?_⟩
  (repeat (first | ((with_reducible apply t_run); exact rfl) | ((with_reducible apply t_p); exact rfl; exact rfl) | ((with_reducible apply t_gr); exact rfl) | ((with_reducible apply t_ge); exact rfl) | ((with_reducible apply t_ld); exact rfl; exact rfl; (repeat (first | with_reducible exact Pk.h | with_reducible apply Pk.t)); exact rfl) | ((with_reducible apply t_st); exact rfl; exact rfl; exact rfl; (repeat (first | with_reducible exact Pk.h | with_reducible apply Pk.t)); exact rfl; exact rfl; exact Nat.le_of_ble_eq_true rfl; exact rfl; (repeat (first | apply rk_nil | (apply rk_skip; exact rfl) | (apply rk_ld; exact rfl; (repeat (first | with_reducible exact Pk.h | with_reducible apply Pk.t)); exact rfl)))) | ((with_reducible apply t_nx F8.k); exact rfl; exact rfl) | with_reducible apply m_seq | (with_reducible apply m_reg mix) | with_reducible apply m_block | ((with_reducible apply m_ct); exact rfl) | ((with_reducible apply m_cf); exact rfl) | ((with_reducible apply m_skn); exact rfl) | ((with_reducible apply m_exn); exact rfl)))
  have hf2 := fun R => First_L R t LA emp emp ⟨6, 0⟩ (.slice none 0 0) [] rds_none (by decide) (by decide)
  rw [fst6] at hf2
  refine t_cl rfl rfl (hf2 (Cl bs2 39 [.string kB, .string emp, .bool false])) (by repeat (first | apply Sx.nil | apply Pk.h | apply Sx.cons | apply Pk.t)) ?_
  rintro _ _ ⟨rfl, rfl⟩
  refine ⟨?_, ?_⟩ <;> (try dsimp only [List.cons_append, List.nil_append])
  · (repeat (first | apply rk_nil | (apply rk_skip; exact rfl) | (apply rk_ld; exact rfl; (repeat (first | with_reducible exact Pk.h | with_reducible apply Pk.t)); exact rfl)))
  (repeat (first | ((with_reducible apply t_run); exact rfl) | ((with_reducible apply t_p); exact rfl; exact rfl) | ((with_reducible apply t_gr); exact rfl) | ((with_reducible apply t_ge); exact rfl) | ((with_reducible apply t_ld); exact rfl; exact rfl; (repeat (first | with_reducible exact Pk.h | with_reducible apply Pk.t)); exact rfl) | ((with_reducible apply t_st); exact rfl; exact rfl; exact rfl; (repeat (first | with_reducible exact Pk.h | with_reducible apply Pk.t)); exact rfl; exact rfl; exact Nat.le_of_ble_eq_true rfl; exact rfl; (repeat (first | apply rk_nil | (apply rk_skip; exact rfl) | (apply rk_ld; exact rfl; (repeat (first | with_reducible exact Pk.h | with_reducible apply Pk.t)); exact rfl)))) | ((with_reducible apply t_nx F8.k); exact rfl; exact rfl) | with_reducible apply m_seq | (with_reducible apply m_reg mix) | with_reducible apply m_block | ((with_reducible apply m_ct); exact rfl) | ((with_reducible apply m_cf); exact rfl) | ((with_reducible apply m_skn); exact rfl) | ((with_reducible apply m_exn); exact rfl)))
  refine t_al rfl fun b8 => ⟨(by (repeat (first | apply rk_nil | (apply rk_skip; exact rfl) | (apply rk_ld; exact rfl; (repeat (first | with_reducible exact Pk.h | with_reducible apply Pk.t)); exact rfl)))), ?_⟩
  (repeat (first | ((with_reducible apply t_run); exact rfl) | ((with_reducible apply t_p); exact rfl; exact rfl) | ((with_reducible apply t_gr); exact rfl) | ((with_reducible apply t_ge); exact rfl) | ((with_reducible apply t_ld); exact rfl; exact rfl; (repeat (first | with_reducible exact Pk.h | with_reducible apply Pk.t)); exact rfl) | ((with_reducible apply t_st); exact rfl; exact rfl; exact rfl; (repeat (first | with_reducible exact Pk.h | with_reducible apply Pk.t)); exact rfl; exact rfl; exact Nat.le_of_ble_eq_true rfl; exact rfl; (repeat (first | apply rk_nil | (apply rk_skip; exact rfl) | (apply rk_ld; exact rfl; (repeat (first | with_reducible exact Pk.h | with_reducible apply Pk.t)); exact rfl)))) | ((with_reducible apply t_nx F8.k); exact rfl; exact rfl) | with_reducible apply m_seq | (with_reducible apply m_reg mix) | with_reducible apply m_block | ((with_reducible apply m_ct); exact rfl) | ((with_reducible apply m_cf); exact rfl) | ((with_reducible apply m_skn); exact rfl) | ((with_reducible apply m_exn); exact rfl)))
  apply m_ret
  · rfl
  · (repeat (first | apply rs_nil | (apply rs_tmp; exact rfl) | (apply rs_cell; exact rfl; (repeat (first | with_reducible exact Pk.h | with_reducible apply Pk.t)); exact rfl)))
  · exact ⟨rfl, rfl⟩
  · exact (by repeat (first | apply Sx.nil | apply Pk.h | apply Sx.cons | apply Pk.t))
end Go.Proofs.Ythcbefkgfhokoaa
