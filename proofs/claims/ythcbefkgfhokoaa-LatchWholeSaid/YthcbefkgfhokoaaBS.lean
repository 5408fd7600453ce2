import Derived.Test.YthcbefkgfhokoaaC2
/- LatchWhole: whatever the input, it returns true and leaves its argument as it was. No condition. -/
namespace Go.Proofs.Ythcbefkgfhokoaa
open Go Go.Dv Go.ChangeShapes Go.WideShapes Go.ChangeAt Go.RowKit
open Classical
set_option maxRecDepth 100000
attribute [local irreducible] HTh HM En Fsp TrA Cl MpA OwS RdS MpO TabA HsA TabL Old

theorem layF_perm (tx : Tx) (hd : Hd) : ∀ (ws : List Wr) (L : List In), (layF tx hd L ws).Perm (ws.map (mkI tx hd) ++ L)
  | [], L => List.Perm.refl _
  | w :: ws, L => by
    refine (layF_perm tx hd ws (putL L (mkI tx hd w))).trans ?_
    rw [List.map_cons, List.cons_append]
    exact ((put_perm L _).append_left _).trans List.perm_middle
def moreN (L : List In) (tx : Tx) (hd : Hd) (ws : List Wr) : Nat := if layE L tx hd ws = 0 then ws.length else 0
theorem lay_more (L : List In) (tx : Tx) (hd : Hd) (ws : List Wr) :
    (layL L tx hd ws).length = L.length + moreN L tx hd ws ∧ (byL (layL L tx hd ws) tx).length = (byL L tx).length + moreN L tx hd ws ∧ moreN L tx hd ws ≤ 16 := by
  unfold moreN layE layL
  cases hA : layA hd.start hd.min hd.prim ws with
  | false => simp
  | true =>
    cases hB : layB L tx ws with
    | true => simp
    | false =>
      simp only [if_true, Bool.false_eq_true, if_false]
      have hr := (rightL_ok (layA_right hA)).2.1
      refine ⟨layF_len tx hd ws L, ?_, hr⟩
      have h1 : (byL (layF tx hd L ws) tx).Perm (ws.map (mkI tx hd) ++ byL L tx) := by
        refine ((layF_perm tx hd ws L).filter _).trans ?_
        rw [List.filter_append]
        have h2 : (ws.map (mkI tx hd)).filter (fun y => eqT y.tx tx) = ws.map (mkI tx hd) := by
          rw [List.filter_eq_self]
          intro y hy
          obtain ⟨w, _, rfl⟩ := List.mem_map.1 hy
          exact eqT_self tx
        rw [h2]
        exact List.Perm.refl _
      rw [h1.length_eq]
      simp; omega
theorem cut_len (L : List In) (tx : Tx) : (cutL L tx).length + (byL L tx).length = L.length := by
  induction L with
  | nil => rfl
  | cons y L ih =>
    simp only [cutL, byL, List.filter_cons] at ih ⊢
    cases eqT y.tx tx <;> simp <;> omega
theorem cut_by (L : List In) (tx : Tx) : byL (cutL L tx) tx = [] := by
  rw [byL, cutL, List.filter_filter, List.filter_eq_nil_iff]
  intro y _ h
  simp at h
theorem wrap_add {a b c : Nat} (h : c = a + b) (hc : c < 9223372036854775808) : IntKind.i64.wrap ((a : Int) + (b : Int)) = (c : Int) := by
  subst h
  simp only [IntKind.wrap, IntKind.bits, IntKind.signed]; simp; omega
theorem wrap_sub {a b c : Nat} (h : c + b = a) (hc : a < 9223372036854775808) : IntKind.i64.wrap ((a : Int) - (b : Int)) = (c : Int) := by
  subst h
  simp only [IntKind.wrap, IntKind.bits, IntKind.signed]; simp; omega
theorem by_le (L : List In) (tx : Tx) : (byL L tx).length ≤ L.length := List.length_filter_le _ _

theorem Whole_law (W : World) (acts : List Act) (sv : Value) (hsv : RdS (Old W) 12 sv (acs acts)) (hal : acts.length ≤ maxLen) (hao : ∀ a ∈ acts, a.ok (Old W)) :
    Fsp Try.prog 4 [sv] [Old W] fun u aa' => u = .bool true ∧ aa' = [Old W] := by
  have hal2 : acts.length < 9223372036854775808 := Nat.lt_of_le_of_lt hal (by decide)
  obtain ⟨sa, sc, rfl⟩ := hsv.len
  have hacl : (acs acts).length = acts.length := by simp [acs]
  rw [hacl] at hsv ⊢
  refine spec_of F4.ok rfl fun gl X => ?_
  dsimp only [List.cons_append, List.nil_append]
  (repeat (first | ((with_reducible apply t_run); exact rfl) | ((with_reducible apply t_p); exact rfl; exact rfl) | ((with_reducible apply t_gr); exact rfl) | ((with_reducible apply t_ge); exact rfl) | ((with_reducible apply t_ld); exact rfl; exact rfl; (repeat (first | with_reducible exact Pk.h | with_reducible apply Pk.t)); exact rfl) | ((with_reducible apply t_st); exact rfl; exact rfl; exact rfl; (repeat (first | with_reducible exact Pk.h | with_reducible apply Pk.t)); exact rfl; exact rfl; exact Nat.le_of_ble_eq_true rfl; exact rfl; (repeat (first | apply rk_nil | (apply rk_skip; exact rfl) | (apply rk_ld; exact rfl; (repeat (first | with_reducible exact Pk.h | with_reducible apply Pk.t)); exact rfl)))) | ((with_reducible apply t_nx F4.k); exact rfl; exact rfl) | with_reducible apply m_seq | (with_reducible apply m_reg mix) | with_reducible apply m_block | ((with_reducible apply m_ct); exact rfl) | ((with_reducible apply m_cf); exact rfl) | ((with_reducible apply m_skn); exact rfl) | ((with_reducible apply m_exn); exact rfl)))
  refine t_cl rfl rfl (awake_spec) (by repeat (first | apply Sx.nil | apply Pk.h | apply Sx.cons | apply Pk.t)) ?_
  rintro _ _ ⟨rfl, rfl⟩
  refine ⟨?_, ?_⟩ <;> (try dsimp only [List.cons_append, List.nil_append])
  · (repeat (first | apply rk_nil | (apply rk_skip; exact rfl) | (apply rk_ld; exact rfl; (repeat (first | with_reducible exact Pk.h | with_reducible apply Pk.t)); exact rfl)))
  (repeat (first | ((with_reducible apply t_run); exact rfl) | ((with_reducible apply t_p); exact rfl; exact rfl) | ((with_reducible apply t_gr); exact rfl) | ((with_reducible apply t_ge); exact rfl) | ((with_reducible apply t_ld); exact rfl; exact rfl; (repeat (first | with_reducible exact Pk.h | with_reducible apply Pk.t)); exact rfl) | ((with_reducible apply t_st); exact rfl; exact rfl; exact rfl; (repeat (first | with_reducible exact Pk.h | with_reducible apply Pk.t)); exact rfl; exact rfl; exact Nat.le_of_ble_eq_true rfl; exact rfl; (repeat (first | apply rk_nil | (apply rk_skip; exact rfl) | (apply rk_ld; exact rfl; (repeat (first | with_reducible exact Pk.h | with_reducible apply Pk.t)); exact rfl)))) | ((with_reducible apply t_nx F4.k); exact rfl; exact rfl) | with_reducible apply m_seq | (with_reducible apply m_reg mix) | with_reducible apply m_block | ((with_reducible apply m_ct); exact rfl) | ((with_reducible apply m_cf); exact rfl) | ((with_reducible apply m_skn); exact rfl) | ((with_reducible apply m_exn); exact rfl)))
  refine t_cl rfl rfl (New_L) (by repeat (first | apply Sx.nil | apply Pk.h | apply Sx.cons | apply Pk.t)) ?_
  rintro _ _ ⟨t, rfl, rfl⟩
  refine ⟨?_, ?_⟩ <;> (try dsimp only [List.cons_append, List.nil_append])
  · (repeat (first | apply rk_nil | (apply rk_skip; exact rfl) | (apply rk_ld; exact rfl; (repeat (first | with_reducible exact Pk.h | with_reducible apply Pk.t)); exact rfl)))
  (repeat (first | ((with_reducible apply t_run); exact rfl) | ((with_reducible apply t_p); exact rfl; exact rfl) | ((with_reducible apply t_gr); exact rfl) | ((with_reducible apply t_ge); exact rfl) | ((with_reducible apply t_ld); exact rfl; exact rfl; (repeat (first | with_reducible exact Pk.h | with_reducible apply Pk.t)); exact rfl) | ((with_reducible apply t_st); exact rfl; exact rfl; exact rfl; (repeat (first | with_reducible exact Pk.h | with_reducible apply Pk.t)); exact rfl; exact rfl; exact Nat.le_of_ble_eq_true rfl; exact rfl; (repeat (first | apply rk_nil | (apply rk_skip; exact rfl) | (apply rk_ld; exact rfl; (repeat (first | with_reducible exact Pk.h | with_reducible apply Pk.t)); exact rfl)))) | ((with_reducible apply t_nx F4.k); exact rfl; exact rfl) | with_reducible apply m_seq | (with_reducible apply m_reg mix) | with_reducible apply m_block | ((with_reducible apply m_ct); exact rfl) | ((with_reducible apply m_cf); exact rfl) | ((with_reducible apply m_skn); exact rfl) | ((with_reducible apply m_exn); exact rfl)))
  refine m_cutb (i := 0) (α := Unit) (fun _ => []) (fun _ => [Old W, X]) (fun _ => True) rfl rfl ?_ ?_
  · refine m_lp (α := Nat × List In) (fun z => [(15, .int .i64 (z.1 : Nat)), (13, .slice sa acts.length sc), (14, .int .i64 (acts.length : Nat)), (3, .pointer (some ⟨t, 0, none⟩))])
      (fun z => [TabL t z.2, Old W, X]) (fun z => z.1 ≤ acts.length ∧ z.1 ≤ 60 ∧ Good z.2 (16 * z.1)) (fun z => acts.length - z.1) ?_ (0, []) ⟨by simp, by simp, ⟨by simp, by simp⟩⟩ [15, 13, 14, 3] rfl (by repeat (first | apply Sx.nil | apply Pk.h | apply Sx.cons | apply Pk.t))
    rintro ⟨i, L⟩ ⟨hi, hi60, hG⟩
    dsimp only at hi hi60 hG ⊢
    (repeat (first | ((with_reducible apply t_run); exact rfl) | ((with_reducible apply t_p); exact rfl; exact rfl) | ((with_reducible apply t_gr); exact rfl) | ((with_reducible apply t_ge); exact rfl) | ((with_reducible apply t_ld); exact rfl; exact rfl; (repeat (first | with_reducible exact Pk.h | with_reducible apply Pk.t)); exact rfl) | ((with_reducible apply t_st); exact rfl; exact rfl; exact rfl; (repeat (first | with_reducible exact Pk.h | with_reducible apply Pk.t)); exact rfl; exact rfl; exact Nat.le_of_ble_eq_true rfl; exact rfl; (repeat (first | apply rk_nil | (apply rk_skip; exact rfl) | (apply rk_ld; exact rfl; (repeat (first | with_reducible exact Pk.h | with_reducible apply Pk.t)); exact rfl)))) | ((with_reducible apply t_nx F4.k); exact rfl; exact rfl) | with_reducible apply m_seq | (with_reducible apply m_reg mix) | with_reducible apply m_block | ((with_reducible apply m_ct); exact rfl) | ((with_reducible apply m_cf); exact rfl) | ((with_reducible apply m_skn); exact rfl) | ((with_reducible apply m_exn); exact rfl)))
    refine m_cond rfl (fun q1 => ?_) (fun q1 => ?_)
    · have hi' : i < acts.length := by have := of_decide_eq_true q1; omega
      obtain ⟨b, o, rfl, _⟩ := hsv.ptr (by rw [hacl]; omega)
      have hok := hao acts[i] (List.getElem_mem hi')
      (repeat (first | ((with_reducible apply t_run); exact rfl) | ((with_reducible apply t_p); exact rfl; exact rfl) | ((with_reducible apply t_gr); exact rfl) | ((with_reducible apply t_ge); exact rfl) | ((with_reducible apply t_ld); exact rfl; exact rfl; (repeat (first | with_reducible exact Pk.h | with_reducible apply Pk.t)); exact rfl) | ((with_reducible apply t_st); exact rfl; exact rfl; exact rfl; (repeat (first | with_reducible exact Pk.h | with_reducible apply Pk.t)); exact rfl; exact rfl; exact Nat.le_of_ble_eq_true rfl; exact rfl; (repeat (first | apply rk_nil | (apply rk_skip; exact rfl) | (apply rk_ld; exact rfl; (repeat (first | with_reducible exact Pk.h | with_reducible apply Pk.t)); exact rfl)))) | ((with_reducible apply t_nx F4.k); exact rfl; exact rfl) | with_reducible apply m_seq | (with_reducible apply m_reg mix) | with_reducible apply m_block | ((with_reducible apply m_ct); exact rfl) | ((with_reducible apply m_cf); exact rfl) | ((with_reducible apply m_skn); exact rfl) | ((with_reducible apply m_exn); exact rfl)))
      refine t_ia i rfl rfl rfl hi' ?_
      refine t_la rfl rfl (R := Old W) (by repeat (first | with_reducible exact Pk.h | with_reducible apply Pk.t)) (hsv.at (by decide) (i := i) (x := acts[i].cells) (by simp [acs, hi'])) ?_
      generalize acts[i] = a at hok ⊢
      obtain ⟨aw, ⟨ac, an⟩, ⟨ap, al⟩, ⟨amp, aml⟩, apr, awv, aws, afr, ati, abv, abu⟩ := a
      have hws := hok.ws
      have hbu := hok.but
      obtain ⟨wa, wc, he⟩ := hws.len
      dsimp only at he hws hbu
      subst he
      obtain ⟨ba, bc, he⟩ := hbu.len
      subst he
      rw [wcs_len] at hws
      have hLl := hG.len
      have hbl := by_le L ⟨ac, an⟩
      have hAll := All_L t L (by omega)
      have hBy := By_L t L ⟨ac, an⟩ hok.tx
      have hCut := Cut_L t L ⟨ac, an⟩ hok.tx
      have hLay := Lay_L (Old W) t L ⟨ac, an⟩ ⟨⟨ap, al⟩, ⟨amp, aml⟩, apr⟩ _ aws hws (Nat.lt_of_le_of_lt hok.wl (by decide)) (by omega) hok.tx hok.min
      have hG1 := good_lay hG ⟨ac, an⟩ ⟨⟨ap, al⟩, ⟨amp, aml⟩, apr⟩ aws
      obtain ⟨m1, m2, m3⟩ := lay_more L ⟨ac, an⟩ ⟨⟨ap, al⟩, ⟨amp, aml⟩, apr⟩ aws
      have hG2 := good_cut hG ⟨ac, an⟩
      have k1 := cut_len L ⟨ac, an⟩
      have k2 := cut_by L ⟨ac, an⟩
      have htx := hok.tx
      clear hok
      rw [wcs_len]
      simp only [Act.cells]
      refine t_al rfl fun b5 => ⟨(by (repeat (first | apply rk_nil | (apply rk_skip; exact rfl) | (apply rk_ld; exact rfl; (repeat (first | with_reducible exact Pk.h | with_reducible apply Pk.t)); exact rfl)))), ?_⟩
      (repeat (first | ((with_reducible apply t_run); exact rfl) | ((with_reducible apply t_p); exact rfl; exact rfl) | ((with_reducible apply t_gr); exact rfl) | ((with_reducible apply t_ge); exact rfl) | ((with_reducible apply t_ld); exact rfl; exact rfl; (repeat (first | with_reducible exact Pk.h | with_reducible apply Pk.t)); exact rfl) | ((with_reducible apply t_st); exact rfl; exact rfl; exact rfl; (repeat (first | with_reducible exact Pk.h | with_reducible apply Pk.t)); exact rfl; exact rfl; exact Nat.le_of_ble_eq_true rfl; exact rfl; (repeat (first | apply rk_nil | (apply rk_skip; exact rfl) | (apply rk_ld; exact rfl; (repeat (first | with_reducible exact Pk.h | with_reducible apply Pk.t)); exact rfl)))) | ((with_reducible apply t_nx F4.k); exact rfl; exact rfl) | with_reducible apply m_seq | (with_reducible apply m_reg mix) | with_reducible apply m_block | ((with_reducible apply m_ct); exact rfl) | ((with_reducible apply m_cf); exact rfl) | ((with_reducible apply m_skn); exact rfl) | ((with_reducible apply m_exn); exact rfl)))
      refine m_cond rfl (fun q2 => ?_) (fun q2 => ?_)
      · refine m_emeet (α := Unit) rfl () (by trivial) [] rfl (by repeat (first | apply Sx.nil | apply Pk.h | apply Sx.cons | apply Pk.t))
      have hi60' : i < 60 := by have := of_decide_eq_false q2; omega
      (repeat (first | ((with_reducible apply t_run); exact rfl) | ((with_reducible apply t_p); exact rfl; exact rfl) | ((with_reducible apply t_gr); exact rfl) | ((with_reducible apply t_ge); exact rfl) | ((with_reducible apply t_ld); exact rfl; exact rfl; (repeat (first | with_reducible exact Pk.h | with_reducible apply Pk.t)); exact rfl) | ((with_reducible apply t_st); exact rfl; exact rfl; exact rfl; (repeat (first | with_reducible exact Pk.h | with_reducible apply Pk.t)); exact rfl; exact rfl; exact Nat.le_of_ble_eq_true rfl; exact rfl; (repeat (first | apply rk_nil | (apply rk_skip; exact rfl) | (apply rk_ld; exact rfl; (repeat (first | with_reducible exact Pk.h | with_reducible apply Pk.t)); exact rfl)))) | ((with_reducible apply t_nx F4.k); exact rfl; exact rfl) | with_reducible apply m_seq | (with_reducible apply m_reg mix) | with_reducible apply m_block | ((with_reducible apply m_ct); exact rfl) | ((with_reducible apply m_cf); exact rfl) | ((with_reducible apply m_skn); exact rfl) | ((with_reducible apply m_exn); exact rfl)))
      refine t_cl rfl rfl (hAll) (by repeat (first | apply Sx.nil | apply Pk.h | apply Sx.cons | apply Pk.t)) ?_
      rintro _ _ rfl
      refine ⟨?_, ?_⟩ <;> (try dsimp only [List.cons_append, List.nil_append])
      · (repeat (first | apply rk_nil | (apply rk_skip; exact rfl) | (apply rk_ld; exact rfl; (repeat (first | with_reducible exact Pk.h | with_reducible apply Pk.t)); exact rfl)))
      refine en_ows (by repeat (first | with_reducible exact Pk.h | with_reducible apply Pk.t)) fun la lc he => ?_
      subst he
      (repeat (first | ((with_reducible apply t_run); exact rfl) | ((with_reducible apply t_p); exact rfl; exact rfl) | ((with_reducible apply t_gr); exact rfl) | ((with_reducible apply t_ge); exact rfl) | ((with_reducible apply t_ld); exact rfl; exact rfl; (repeat (first | with_reducible exact Pk.h | with_reducible apply Pk.t)); exact rfl) | ((with_reducible apply t_st); exact rfl; exact rfl; exact rfl; (repeat (first | with_reducible exact Pk.h | with_reducible apply Pk.t)); exact rfl; exact rfl; exact Nat.le_of_ble_eq_true rfl; exact rfl; (repeat (first | apply rk_nil | (apply rk_skip; exact rfl) | (apply rk_ld; exact rfl; (repeat (first | with_reducible exact Pk.h | with_reducible apply Pk.t)); exact rfl)))) | ((with_reducible apply t_nx F4.k); exact rfl; exact rfl) | with_reducible apply m_seq | (with_reducible apply m_reg mix) | with_reducible apply m_block | ((with_reducible apply m_ct); exact rfl) | ((with_reducible apply m_cf); exact rfl) | ((with_reducible apply m_skn); exact rfl) | ((with_reducible apply m_exn); exact rfl)))
      refine t_cl rfl rfl (hBy) (by repeat (first | apply Sx.nil | apply Pk.h | apply Sx.cons | apply Pk.t)) ?_
      rintro _ _ rfl
      refine ⟨?_, ?_⟩ <;> (try dsimp only [List.cons_append, List.nil_append])
      · (repeat (first | apply rk_nil | (apply rk_skip; exact rfl) | (apply rk_ld; exact rfl; (repeat (first | with_reducible exact Pk.h | with_reducible apply Pk.t)); exact rfl)))
      refine en_ows (by repeat (first | with_reducible exact Pk.h | with_reducible apply Pk.t)) fun la2 lc2 he => ?_
      subst he
      (repeat (first | ((with_reducible apply t_run); exact rfl) | ((with_reducible apply t_p); exact rfl; exact rfl) | ((with_reducible apply t_gr); exact rfl) | ((with_reducible apply t_ge); exact rfl) | ((with_reducible apply t_ld); exact rfl; exact rfl; (repeat (first | with_reducible exact Pk.h | with_reducible apply Pk.t)); exact rfl) | ((with_reducible apply t_st); exact rfl; exact rfl; exact rfl; (repeat (first | with_reducible exact Pk.h | with_reducible apply Pk.t)); exact rfl; exact rfl; exact Nat.le_of_ble_eq_true rfl; exact rfl; (repeat (first | apply rk_nil | (apply rk_skip; exact rfl) | (apply rk_ld; exact rfl; (repeat (first | with_reducible exact Pk.h | with_reducible apply Pk.t)); exact rfl)))) | ((with_reducible apply t_nx F4.k); exact rfl; exact rfl) | with_reducible apply m_seq | (with_reducible apply m_reg mix) | with_reducible apply m_block | ((with_reducible apply m_ct); exact rfl) | ((with_reducible apply m_cf); exact rfl) | ((with_reducible apply m_skn); exact rfl) | ((with_reducible apply m_exn); exact rfl)))
      refine m_cutn (α := Bool) (fun z => (32, .bool z) :: [(15, .int .i64 (i : Nat)), (13, .slice (some ⟨b, o, none⟩) acts.length sc), (14, .int .i64 (acts.length : Nat)), (3, .pointer (some ⟨t, 0, none⟩)), (5, .pointer (some ⟨b5, 0, none⟩)), (31, .int .i64 aw), (6, .int .i64 (L.length : Nat)), (7, .int .i64 ((byL L ⟨ac, an⟩).length : Nat))]) (fun _ => [TabL t L, Old W, Cl b5 32 (Act.cells ⟨aw, ⟨ac, an⟩, ⟨ap, al⟩, ⟨amp, aml⟩, apr, .slice wa aws.length wc, aws, afr, ati, .slice ba (abu.map Tx.cells).length bc, abu⟩), X]) (fun z => z = (decide (aw = 0) || decide (aw = 3))) rfl ?_ ?_
      · refine m_cond rfl (fun p1 => ?_) (fun p1 => ?_)
        · refine m_meet rfl (decide (aw = 0)) (by rw [p1]; rfl) [32, 15, 13, 14, 3, 5, 31, 6, 7] rfl (by repeat (first | apply Sx.nil | apply Pk.h | apply Sx.cons | apply Pk.t))
        · (repeat (first | ((with_reducible apply t_run); exact rfl) | ((with_reducible apply t_p); exact rfl; exact rfl) | ((with_reducible apply t_gr); exact rfl) | ((with_reducible apply t_ge); exact rfl) | ((with_reducible apply t_ld); exact rfl; exact rfl; (repeat (first | with_reducible exact Pk.h | with_reducible apply Pk.t)); exact rfl) | ((with_reducible apply t_st); exact rfl; exact rfl; exact rfl; (repeat (first | with_reducible exact Pk.h | with_reducible apply Pk.t)); exact rfl; exact rfl; exact Nat.le_of_ble_eq_true rfl; exact rfl; (repeat (first | apply rk_nil | (apply rk_skip; exact rfl) | (apply rk_ld; exact rfl; (repeat (first | with_reducible exact Pk.h | with_reducible apply Pk.t)); exact rfl)))) | ((with_reducible apply t_nx F4.k); exact rfl; exact rfl) | with_reducible apply m_seq | (with_reducible apply m_reg mix) | with_reducible apply m_block | ((with_reducible apply m_ct); exact rfl) | ((with_reducible apply m_cf); exact rfl) | ((with_reducible apply m_skn); exact rfl) | ((with_reducible apply m_exn); exact rfl)))
          refine t_meet rfl (decide (aw = 3)) (by rw [p1]; rfl) [32, 15, 13, 14, 3, 5, 31, 6, 7] rfl (by repeat (first | apply Sx.nil | apply Pk.h | apply Sx.cons | apply Pk.t))
      rintro z hz
      simp only [Act.cells]
      refine m_cond rfl (fun p1 => ?_) (fun p1 => ?_)
      · (repeat (first | ((with_reducible apply t_run); exact rfl) | ((with_reducible apply t_p); exact rfl; exact rfl) | ((with_reducible apply t_gr); exact rfl) | ((with_reducible apply t_ge); exact rfl) | ((with_reducible apply t_ld); exact rfl; exact rfl; (repeat (first | with_reducible exact Pk.h | with_reducible apply Pk.t)); exact rfl) | ((with_reducible apply t_st); exact rfl; exact rfl; exact rfl; (repeat (first | with_reducible exact Pk.h | with_reducible apply Pk.t)); exact rfl; exact rfl; exact Nat.le_of_ble_eq_true rfl; exact rfl; (repeat (first | apply rk_nil | (apply rk_skip; exact rfl) | (apply rk_ld; exact rfl; (repeat (first | with_reducible exact Pk.h | with_reducible apply Pk.t)); exact rfl)))) | ((with_reducible apply t_nx F4.k); exact rfl; exact rfl) | with_reducible apply m_seq | (with_reducible apply m_reg mix) | with_reducible apply m_block | ((with_reducible apply m_ct); exact rfl) | ((with_reducible apply m_cf); exact rfl) | ((with_reducible apply m_skn); exact rfl) | ((with_reducible apply m_exn); exact rfl)))
        refine t_cl rfl rfl (hLay) (by repeat (first | apply Sx.nil | apply Pk.h | apply Sx.cons | apply Pk.t)) ?_
        rintro _ _ ⟨rfl, rfl⟩
        refine ⟨?_, ?_⟩ <;> (try dsimp only [List.cons_append, List.nil_append])
        · (repeat (first | apply rk_nil | (apply rk_skip; exact rfl) | (apply rk_ld; exact rfl; (repeat (first | with_reducible exact Pk.h | with_reducible apply Pk.t)); exact rfl)))
        (repeat (first | ((with_reducible apply t_run); exact rfl) | ((with_reducible apply t_p); exact rfl; exact rfl) | ((with_reducible apply t_gr); exact rfl) | ((with_reducible apply t_ge); exact rfl) | ((with_reducible apply t_ld); exact rfl; exact rfl; (repeat (first | with_reducible exact Pk.h | with_reducible apply Pk.t)); exact rfl) | ((with_reducible apply t_st); exact rfl; exact rfl; exact rfl; (repeat (first | with_reducible exact Pk.h | with_reducible apply Pk.t)); exact rfl; exact rfl; exact Nat.le_of_ble_eq_true rfl; exact rfl; (repeat (first | apply rk_nil | (apply rk_skip; exact rfl) | (apply rk_ld; exact rfl; (repeat (first | with_reducible exact Pk.h | with_reducible apply Pk.t)); exact rfl)))) | ((with_reducible apply t_nx F4.k); exact rfl; exact rfl) | with_reducible apply m_seq | (with_reducible apply m_reg mix) | with_reducible apply m_block | ((with_reducible apply m_ct); exact rfl) | ((with_reducible apply m_cf); exact rfl) | ((with_reducible apply m_skn); exact rfl) | ((with_reducible apply m_exn); exact rfl)))
        refine m_cutn (α := Unit) (fun _ => (9, .int .i64 (moreN L ⟨ac, an⟩ ⟨⟨ap, al⟩, ⟨amp, aml⟩, apr⟩ aws : Nat)) :: [(15, .int .i64 (i : Nat)), (13, .slice (some ⟨b, o, none⟩) acts.length sc), (14, .int .i64 (acts.length : Nat)), (3, .pointer (some ⟨t, 0, none⟩)), (5, .pointer (some ⟨b5, 0, none⟩)), (31, .int .i64 aw), (6, .int .i64 (L.length : Nat)), (7, .int .i64 ((byL L ⟨ac, an⟩).length : Nat))]) (fun _ => [TabL t (layL L ⟨ac, an⟩ ⟨⟨ap, al⟩, ⟨amp, aml⟩, apr⟩ aws), Old W, Cl b5 32 (Act.cells ⟨aw, ⟨ac, an⟩, ⟨ap, al⟩, ⟨amp, aml⟩, apr, .slice wa aws.length wc, aws, afr, ati, .slice ba (abu.map Tx.cells).length bc, abu⟩), X]) (fun _ => True) rfl ?_ ?_
        · refine m_cond rfl (fun p2 => ?_) (fun p2 => ?_)
          · have hm : moreN L ⟨ac, an⟩ ⟨⟨ap, al⟩, ⟨amp, aml⟩, apr⟩ aws = aws.length := by rw [moreN, if_pos (of_decide_eq_true p2)]
            rw [hm]
            (repeat (first | ((with_reducible apply t_run); exact rfl) | ((with_reducible apply t_p); exact rfl; exact rfl) | ((with_reducible apply t_gr); exact rfl) | ((with_reducible apply t_ge); exact rfl) | ((with_reducible apply t_ld); exact rfl; exact rfl; (repeat (first | with_reducible exact Pk.h | with_reducible apply Pk.t)); exact rfl) | ((with_reducible apply t_st); exact rfl; exact rfl; exact rfl; (repeat (first | with_reducible exact Pk.h | with_reducible apply Pk.t)); exact rfl; exact rfl; exact Nat.le_of_ble_eq_true rfl; exact rfl; (repeat (first | apply rk_nil | (apply rk_skip; exact rfl) | (apply rk_ld; exact rfl; (repeat (first | with_reducible exact Pk.h | with_reducible apply Pk.t)); exact rfl)))) | ((with_reducible apply t_nx F4.k); exact rfl; exact rfl) | with_reducible apply m_seq | (with_reducible apply m_reg mix) | with_reducible apply m_block | ((with_reducible apply m_ct); exact rfl) | ((with_reducible apply m_cf); exact rfl) | ((with_reducible apply m_skn); exact rfl) | ((with_reducible apply m_exn); exact rfl)))
            refine t_meet rfl () trivial [9, 15, 13, 14, 3, 5, 31, 6, 7] rfl (by repeat (first | apply Sx.nil | apply Pk.h | apply Sx.cons | apply Pk.t))
          · have hm : moreN L ⟨ac, an⟩ ⟨⟨ap, al⟩, ⟨amp, aml⟩, apr⟩ aws = 0 := by rw [moreN, if_neg (of_decide_eq_false p2)]
            rw [hm]
            refine m_meet rfl () trivial [9, 15, 13, 14, 3, 5, 31, 6, 7] rfl (by repeat (first | apply Sx.nil | apply Pk.h | apply Sx.cons | apply Pk.t))
        rintro _ _
        have hL1 := hG1.len
        have hAll1 := All_L t (layL L ⟨ac, an⟩ ⟨⟨ap, al⟩, ⟨amp, aml⟩, apr⟩ aws) (by omega)
        have hBy1 := By_L t (layL L ⟨ac, an⟩ ⟨⟨ap, al⟩, ⟨amp, aml⟩, apr⟩ aws) ⟨ac, an⟩ htx
        generalize moreN L ⟨ac, an⟩ ⟨⟨ap, al⟩, ⟨amp, aml⟩, apr⟩ aws = mo at m1 m2 m3 ⊢
        generalize layL L ⟨ac, an⟩ ⟨⟨ap, al⟩, ⟨amp, aml⟩, apr⟩ aws = L1 at m1 m2 hL1 hAll1 hBy1 hG1 ⊢
        simp only [Act.cells]
        (repeat (first | ((with_reducible apply t_run); exact rfl) | ((with_reducible apply t_p); exact rfl; exact rfl) | ((with_reducible apply t_gr); exact rfl) | ((with_reducible apply t_ge); exact rfl) | ((with_reducible apply t_ld); exact rfl; exact rfl; (repeat (first | with_reducible exact Pk.h | with_reducible apply Pk.t)); exact rfl) | ((with_reducible apply t_st); exact rfl; exact rfl; exact rfl; (repeat (first | with_reducible exact Pk.h | with_reducible apply Pk.t)); exact rfl; exact rfl; exact Nat.le_of_ble_eq_true rfl; exact rfl; (repeat (first | apply rk_nil | (apply rk_skip; exact rfl) | (apply rk_ld; exact rfl; (repeat (first | with_reducible exact Pk.h | with_reducible apply Pk.t)); exact rfl)))) | ((with_reducible apply t_nx F4.k); exact rfl; exact rfl) | with_reducible apply m_seq | (with_reducible apply m_reg mix) | with_reducible apply m_block | ((with_reducible apply m_ct); exact rfl) | ((with_reducible apply m_cf); exact rfl) | ((with_reducible apply m_skn); exact rfl) | ((with_reducible apply m_exn); exact rfl)))
        refine t_cl rfl rfl (hAll1) (by repeat (first | apply Sx.nil | apply Pk.h | apply Sx.cons | apply Pk.t)) ?_
        rintro _ _ rfl
        refine ⟨?_, ?_⟩ <;> (try dsimp only [List.cons_append, List.nil_append])
        · (repeat (first | apply rk_nil | (apply rk_skip; exact rfl) | (apply rk_ld; exact rfl; (repeat (first | with_reducible exact Pk.h | with_reducible apply Pk.t)); exact rfl)))
        refine en_ows (by repeat (first | with_reducible exact Pk.h | with_reducible apply Pk.t)) fun la3 lc3 he => ?_
        subst he
        (repeat (first | ((with_reducible apply t_run); exact rfl) | ((with_reducible apply t_p); exact rfl; exact rfl) | ((with_reducible apply t_gr); exact rfl) | ((with_reducible apply t_ge); exact rfl) | ((with_reducible apply t_ld); exact rfl; exact rfl; (repeat (first | with_reducible exact Pk.h | with_reducible apply Pk.t)); exact rfl) | ((with_reducible apply t_st); exact rfl; exact rfl; exact rfl; (repeat (first | with_reducible exact Pk.h | with_reducible apply Pk.t)); exact rfl; exact rfl; exact Nat.le_of_ble_eq_true rfl; exact rfl; (repeat (first | apply rk_nil | (apply rk_skip; exact rfl) | (apply rk_ld; exact rfl; (repeat (first | with_reducible exact Pk.h | with_reducible apply Pk.t)); exact rfl)))) | ((with_reducible apply t_nx F4.k); exact rfl; exact rfl) | with_reducible apply m_seq | (with_reducible apply m_reg mix) | with_reducible apply m_block | ((with_reducible apply m_ct); exact rfl) | ((with_reducible apply m_cf); exact rfl) | ((with_reducible apply m_skn); exact rfl) | ((with_reducible apply m_exn); exact rfl)))
        have w1 := wrap_add m1 (by omega)
        have w2 := wrap_add m2 (by omega)
        refine t_spl 59 rfl (fun p3 => ?_) (fun p3 => ?_)
        · exfalso
          rw [w1] at p3
          simp at p3
        (repeat (first | ((with_reducible apply t_run); exact rfl) | ((with_reducible apply t_p); exact rfl; exact rfl) | ((with_reducible apply t_gr); exact rfl) | ((with_reducible apply t_ge); exact rfl) | ((with_reducible apply t_ld); exact rfl; exact rfl; (repeat (first | with_reducible exact Pk.h | with_reducible apply Pk.t)); exact rfl) | ((with_reducible apply t_st); exact rfl; exact rfl; exact rfl; (repeat (first | with_reducible exact Pk.h | with_reducible apply Pk.t)); exact rfl; exact rfl; exact Nat.le_of_ble_eq_true rfl; exact rfl; (repeat (first | apply rk_nil | (apply rk_skip; exact rfl) | (apply rk_ld; exact rfl; (repeat (first | with_reducible exact Pk.h | with_reducible apply Pk.t)); exact rfl)))) | ((with_reducible apply t_nx F4.k); exact rfl; exact rfl) | with_reducible apply m_seq | (with_reducible apply m_reg mix) | with_reducible apply m_block | ((with_reducible apply m_ct); exact rfl) | ((with_reducible apply m_cf); exact rfl) | ((with_reducible apply m_skn); exact rfl) | ((with_reducible apply m_exn); exact rfl)))
        refine t_cl rfl rfl (hBy1) (by repeat (first | apply Sx.nil | apply Pk.h | apply Sx.cons | apply Pk.t)) ?_
        rintro _ _ rfl
        refine ⟨?_, ?_⟩ <;> (try dsimp only [List.cons_append, List.nil_append])
        · (repeat (first | apply rk_nil | (apply rk_skip; exact rfl) | (apply rk_ld; exact rfl; (repeat (first | with_reducible exact Pk.h | with_reducible apply Pk.t)); exact rfl)))
        refine en_ows (by repeat (first | with_reducible exact Pk.h | with_reducible apply Pk.t)) fun la4 lc4 he => ?_
        subst he
        (repeat (first | ((with_reducible apply t_run); exact rfl) | ((with_reducible apply t_p); exact rfl; exact rfl) | ((with_reducible apply t_gr); exact rfl) | ((with_reducible apply t_ge); exact rfl) | ((with_reducible apply t_ld); exact rfl; exact rfl; (repeat (first | with_reducible exact Pk.h | with_reducible apply Pk.t)); exact rfl) | ((with_reducible apply t_st); exact rfl; exact rfl; exact rfl; (repeat (first | with_reducible exact Pk.h | with_reducible apply Pk.t)); exact rfl; exact rfl; exact Nat.le_of_ble_eq_true rfl; exact rfl; (repeat (first | apply rk_nil | (apply rk_skip; exact rfl) | (apply rk_ld; exact rfl; (repeat (first | with_reducible exact Pk.h | with_reducible apply Pk.t)); exact rfl)))) | ((with_reducible apply t_nx F4.k); exact rfl; exact rfl) | with_reducible apply m_seq | (with_reducible apply m_reg mix) | with_reducible apply m_block | ((with_reducible apply m_ct); exact rfl) | ((with_reducible apply m_cf); exact rfl) | ((with_reducible apply m_skn); exact rfl) | ((with_reducible apply m_exn); exact rfl)))
        refine m_cond rfl (fun p4 => ?_) (fun p4 => ?_)
        · exfalso
          rw [w2] at p4
          simp at p4
        (repeat (first | ((with_reducible apply t_run); exact rfl) | ((with_reducible apply t_p); exact rfl; exact rfl) | ((with_reducible apply t_gr); exact rfl) | ((with_reducible apply t_ge); exact rfl) | ((with_reducible apply t_ld); exact rfl; exact rfl; (repeat (first | with_reducible exact Pk.h | with_reducible apply Pk.t)); exact rfl) | ((with_reducible apply t_st); exact rfl; exact rfl; exact rfl; (repeat (first | with_reducible exact Pk.h | with_reducible apply Pk.t)); exact rfl; exact rfl; exact Nat.le_of_ble_eq_true rfl; exact rfl; (repeat (first | apply rk_nil | (apply rk_skip; exact rfl) | (apply rk_ld; exact rfl; (repeat (first | with_reducible exact Pk.h | with_reducible apply Pk.t)); exact rfl)))) | ((with_reducible apply t_nx F4.k); exact rfl; exact rfl) | with_reducible apply m_seq | (with_reducible apply m_reg mix) | with_reducible apply m_block | ((with_reducible apply m_ct); exact rfl) | ((with_reducible apply m_cf); exact rfl) | ((with_reducible apply m_skn); exact rfl) | ((with_reducible apply m_exn); exact rfl)))
        refine t_meet rfl (i + 1, L1) ⟨⟨hi', by dsimp only; omega, by dsimp only; exact good_mono hG1 (by omega)⟩, by dsimp only; omega⟩ [15, 13, 14, 3] ?_ (by repeat (first | apply Sx.nil | apply Pk.h | apply Sx.cons | apply Pk.t))
        dsimp only
        rw [wrap_nat (by omega)]
        rfl
      · (repeat (first | ((with_reducible apply t_run); exact rfl) | ((with_reducible apply t_p); exact rfl; exact rfl) | ((with_reducible apply t_gr); exact rfl) | ((with_reducible apply t_ge); exact rfl) | ((with_reducible apply t_ld); exact rfl; exact rfl; (repeat (first | with_reducible exact Pk.h | with_reducible apply Pk.t)); exact rfl) | ((with_reducible apply t_st); exact rfl; exact rfl; exact rfl; (repeat (first | with_reducible exact Pk.h | with_reducible apply Pk.t)); exact rfl; exact rfl; exact Nat.le_of_ble_eq_true rfl; exact rfl; (repeat (first | apply rk_nil | (apply rk_skip; exact rfl) | (apply rk_ld; exact rfl; (repeat (first | with_reducible exact Pk.h | with_reducible apply Pk.t)); exact rfl)))) | ((with_reducible apply t_nx F4.k); exact rfl; exact rfl) | with_reducible apply m_seq | (with_reducible apply m_reg mix) | with_reducible apply m_block | ((with_reducible apply m_ct); exact rfl) | ((with_reducible apply m_cf); exact rfl) | ((with_reducible apply m_skn); exact rfl) | ((with_reducible apply m_exn); exact rfl)))
        refine m_cond rfl (fun p2 => ?_) (fun p2 => ?_)
        · (repeat (first | ((with_reducible apply t_run); exact rfl) | ((with_reducible apply t_p); exact rfl; exact rfl) | ((with_reducible apply t_gr); exact rfl) | ((with_reducible apply t_ge); exact rfl) | ((with_reducible apply t_ld); exact rfl; exact rfl; (repeat (first | with_reducible exact Pk.h | with_reducible apply Pk.t)); exact rfl) | ((with_reducible apply t_st); exact rfl; exact rfl; exact rfl; (repeat (first | with_reducible exact Pk.h | with_reducible apply Pk.t)); exact rfl; exact rfl; exact Nat.le_of_ble_eq_true rfl; exact rfl; (repeat (first | apply rk_nil | (apply rk_skip; exact rfl) | (apply rk_ld; exact rfl; (repeat (first | with_reducible exact Pk.h | with_reducible apply Pk.t)); exact rfl)))) | ((with_reducible apply t_nx F4.k); exact rfl; exact rfl) | with_reducible apply m_seq | (with_reducible apply m_reg mix) | with_reducible apply m_block | ((with_reducible apply m_ct); exact rfl) | ((with_reducible apply m_cf); exact rfl) | ((with_reducible apply m_skn); exact rfl) | ((with_reducible apply m_exn); exact rfl)))
          refine t_cl rfl rfl (hCut) (by repeat (first | apply Sx.nil | apply Pk.h | apply Sx.cons | apply Pk.t)) ?_
          rintro _ _ rfl
          refine ⟨?_, ?_⟩ <;> (try dsimp only [List.cons_append, List.nil_append])
          · (repeat (first | apply rk_nil | (apply rk_skip; exact rfl) | (apply rk_ld; exact rfl; (repeat (first | with_reducible exact Pk.h | with_reducible apply Pk.t)); exact rfl)))
          refine en_ows (by repeat (first | with_reducible exact Pk.h | with_reducible apply Pk.t)) fun la3 lc3 he => ?_
          subst he
          (repeat (first | ((with_reducible apply t_run); exact rfl) | ((with_reducible apply t_p); exact rfl; exact rfl) | ((with_reducible apply t_gr); exact rfl) | ((with_reducible apply t_ge); exact rfl) | ((with_reducible apply t_ld); exact rfl; exact rfl; (repeat (first | with_reducible exact Pk.h | with_reducible apply Pk.t)); exact rfl) | ((with_reducible apply t_st); exact rfl; exact rfl; exact rfl; (repeat (first | with_reducible exact Pk.h | with_reducible apply Pk.t)); exact rfl; exact rfl; exact Nat.le_of_ble_eq_true rfl; exact rfl; (repeat (first | apply rk_nil | (apply rk_skip; exact rfl) | (apply rk_ld; exact rfl; (repeat (first | with_reducible exact Pk.h | with_reducible apply Pk.t)); exact rfl)))) | ((with_reducible apply t_nx F4.k); exact rfl; exact rfl) | with_reducible apply m_seq | (with_reducible apply m_reg mix) | with_reducible apply m_block | ((with_reducible apply m_ct); exact rfl) | ((with_reducible apply m_cf); exact rfl) | ((with_reducible apply m_skn); exact rfl) | ((with_reducible apply m_exn); exact rfl)))
          refine t_spl 79 rfl (fun p3 => ?_) (fun p3 => ?_)
          · exfalso
            simp at p3
          have hAll1 := All_L t (cutL L ⟨ac, an⟩) (by have := hG2.len; omega)
          have hBy1 := By_L t (cutL L ⟨ac, an⟩) ⟨ac, an⟩ htx
          (repeat (first | ((with_reducible apply t_run); exact rfl) | ((with_reducible apply t_p); exact rfl; exact rfl) | ((with_reducible apply t_gr); exact rfl) | ((with_reducible apply t_ge); exact rfl) | ((with_reducible apply t_ld); exact rfl; exact rfl; (repeat (first | with_reducible exact Pk.h | with_reducible apply Pk.t)); exact rfl) | ((with_reducible apply t_st); exact rfl; exact rfl; exact rfl; (repeat (first | with_reducible exact Pk.h | with_reducible apply Pk.t)); exact rfl; exact rfl; exact Nat.le_of_ble_eq_true rfl; exact rfl; (repeat (first | apply rk_nil | (apply rk_skip; exact rfl) | (apply rk_ld; exact rfl; (repeat (first | with_reducible exact Pk.h | with_reducible apply Pk.t)); exact rfl)))) | ((with_reducible apply t_nx F4.k); exact rfl; exact rfl) | with_reducible apply m_seq | (with_reducible apply m_reg mix) | with_reducible apply m_block | ((with_reducible apply m_ct); exact rfl) | ((with_reducible apply m_cf); exact rfl) | ((with_reducible apply m_skn); exact rfl) | ((with_reducible apply m_exn); exact rfl)))
          refine t_cl rfl rfl (hAll1) (by repeat (first | apply Sx.nil | apply Pk.h | apply Sx.cons | apply Pk.t)) ?_
          rintro _ _ rfl
          refine ⟨?_, ?_⟩ <;> (try dsimp only [List.cons_append, List.nil_append])
          · (repeat (first | apply rk_nil | (apply rk_skip; exact rfl) | (apply rk_ld; exact rfl; (repeat (first | with_reducible exact Pk.h | with_reducible apply Pk.t)); exact rfl)))
          refine en_ows (by repeat (first | with_reducible exact Pk.h | with_reducible apply Pk.t)) fun la4 lc4 he => ?_
          subst he
          (repeat (first | ((with_reducible apply t_run); exact rfl) | ((with_reducible apply t_p); exact rfl; exact rfl) | ((with_reducible apply t_gr); exact rfl) | ((with_reducible apply t_ge); exact rfl) | ((with_reducible apply t_ld); exact rfl; exact rfl; (repeat (first | with_reducible exact Pk.h | with_reducible apply Pk.t)); exact rfl) | ((with_reducible apply t_st); exact rfl; exact rfl; exact rfl; (repeat (first | with_reducible exact Pk.h | with_reducible apply Pk.t)); exact rfl; exact rfl; exact Nat.le_of_ble_eq_true rfl; exact rfl; (repeat (first | apply rk_nil | (apply rk_skip; exact rfl) | (apply rk_ld; exact rfl; (repeat (first | with_reducible exact Pk.h | with_reducible apply Pk.t)); exact rfl)))) | ((with_reducible apply t_nx F4.k); exact rfl; exact rfl) | with_reducible apply m_seq | (with_reducible apply m_reg mix) | with_reducible apply m_block | ((with_reducible apply m_ct); exact rfl) | ((with_reducible apply m_cf); exact rfl) | ((with_reducible apply m_skn); exact rfl) | ((with_reducible apply m_exn); exact rfl)))
          have w1 := wrap_sub k1 (by omega)
          refine t_spl 88 rfl (fun p4 => ?_) (fun p4 => ?_)
          · exfalso
            rw [w1] at p4
            simp at p4
          (repeat (first | ((with_reducible apply t_run); exact rfl) | ((with_reducible apply t_p); exact rfl; exact rfl) | ((with_reducible apply t_gr); exact rfl) | ((with_reducible apply t_ge); exact rfl) | ((with_reducible apply t_ld); exact rfl; exact rfl; (repeat (first | with_reducible exact Pk.h | with_reducible apply Pk.t)); exact rfl) | ((with_reducible apply t_st); exact rfl; exact rfl; exact rfl; (repeat (first | with_reducible exact Pk.h | with_reducible apply Pk.t)); exact rfl; exact rfl; exact Nat.le_of_ble_eq_true rfl; exact rfl; (repeat (first | apply rk_nil | (apply rk_skip; exact rfl) | (apply rk_ld; exact rfl; (repeat (first | with_reducible exact Pk.h | with_reducible apply Pk.t)); exact rfl)))) | ((with_reducible apply t_nx F4.k); exact rfl; exact rfl) | with_reducible apply m_seq | (with_reducible apply m_reg mix) | with_reducible apply m_block | ((with_reducible apply m_ct); exact rfl) | ((with_reducible apply m_cf); exact rfl) | ((with_reducible apply m_skn); exact rfl) | ((with_reducible apply m_exn); exact rfl)))
          refine t_cl rfl rfl (hBy1) (by repeat (first | apply Sx.nil | apply Pk.h | apply Sx.cons | apply Pk.t)) ?_
          rintro _ _ rfl
          refine ⟨?_, ?_⟩ <;> (try dsimp only [List.cons_append, List.nil_append])
          · (repeat (first | apply rk_nil | (apply rk_skip; exact rfl) | (apply rk_ld; exact rfl; (repeat (first | with_reducible exact Pk.h | with_reducible apply Pk.t)); exact rfl)))
          rw [k2]
          refine en_ows (by repeat (first | with_reducible exact Pk.h | with_reducible apply Pk.t)) fun la5 lc5 he => ?_
          subst he
          (repeat (first | ((with_reducible apply t_run); exact rfl) | ((with_reducible apply t_p); exact rfl; exact rfl) | ((with_reducible apply t_gr); exact rfl) | ((with_reducible apply t_ge); exact rfl) | ((with_reducible apply t_ld); exact rfl; exact rfl; (repeat (first | with_reducible exact Pk.h | with_reducible apply Pk.t)); exact rfl) | ((with_reducible apply t_st); exact rfl; exact rfl; exact rfl; (repeat (first | with_reducible exact Pk.h | with_reducible apply Pk.t)); exact rfl; exact rfl; exact Nat.le_of_ble_eq_true rfl; exact rfl; (repeat (first | apply rk_nil | (apply rk_skip; exact rfl) | (apply rk_ld; exact rfl; (repeat (first | with_reducible exact Pk.h | with_reducible apply Pk.t)); exact rfl)))) | ((with_reducible apply t_nx F4.k); exact rfl; exact rfl) | with_reducible apply m_seq | (with_reducible apply m_reg mix) | with_reducible apply m_block | ((with_reducible apply m_ct); exact rfl) | ((with_reducible apply m_cf); exact rfl) | ((with_reducible apply m_skn); exact rfl) | ((with_reducible apply m_exn); exact rfl)))
          refine t_meet rfl (i + 1, cutL L ⟨ac, an⟩) ⟨⟨hi', by dsimp only; omega, by dsimp only; exact good_mono hG2 (by omega)⟩, by dsimp only; omega⟩ [15, 13, 14, 3] ?_ (by repeat (first | apply Sx.nil | apply Pk.h | apply Sx.cons | apply Pk.t))
          dsimp only
          rw [wrap_nat (by omega)]
          rfl
        · refine m_skn rfl ?_
          (repeat (first | ((with_reducible apply t_run); exact rfl) | ((with_reducible apply t_p); exact rfl; exact rfl) | ((with_reducible apply t_gr); exact rfl) | ((with_reducible apply t_ge); exact rfl) | ((with_reducible apply t_ld); exact rfl; exact rfl; (repeat (first | with_reducible exact Pk.h | with_reducible apply Pk.t)); exact rfl) | ((with_reducible apply t_st); exact rfl; exact rfl; exact rfl; (repeat (first | with_reducible exact Pk.h | with_reducible apply Pk.t)); exact rfl; exact rfl; exact Nat.le_of_ble_eq_true rfl; exact rfl; (repeat (first | apply rk_nil | (apply rk_skip; exact rfl) | (apply rk_ld; exact rfl; (repeat (first | with_reducible exact Pk.h | with_reducible apply Pk.t)); exact rfl)))) | ((with_reducible apply t_nx F4.k); exact rfl; exact rfl) | with_reducible apply m_seq | (with_reducible apply m_reg mix) | with_reducible apply m_block | ((with_reducible apply m_ct); exact rfl) | ((with_reducible apply m_cf); exact rfl) | ((with_reducible apply m_skn); exact rfl) | ((with_reducible apply m_exn); exact rfl)))
          refine t_meet rfl (i + 1, L) ⟨⟨hi', by dsimp only; omega, by dsimp only; exact good_mono hG (by omega)⟩, by dsimp only; omega⟩ [15, 13, 14, 3] ?_ (by repeat (first | apply Sx.nil | apply Pk.h | apply Sx.cons | apply Pk.t))
          dsimp only
          rw [wrap_nat (by omega)]
          rfl
    · refine m_emeet (α := Unit) rfl () (by trivial) [] rfl (by repeat (first | apply Sx.nil | apply Pk.h | apply Sx.cons | apply Pk.t))
  rintro _ _
  (repeat (first | ((with_reducible apply t_run); exact rfl) | ((with_reducible apply t_p); exact rfl; exact rfl) | ((with_reducible apply t_gr); exact rfl) | ((with_reducible apply t_ge); exact rfl) | ((with_reducible apply t_ld); exact rfl; exact rfl; (repeat (first | with_reducible exact Pk.h | with_reducible apply Pk.t)); exact rfl) | ((with_reducible apply t_st); exact rfl; exact rfl; exact rfl; (repeat (first | with_reducible exact Pk.h | with_reducible apply Pk.t)); exact rfl; exact rfl; exact Nat.le_of_ble_eq_true rfl; exact rfl; (repeat (first | apply rk_nil | (apply rk_skip; exact rfl) | (apply rk_ld; exact rfl; (repeat (first | with_reducible exact Pk.h | with_reducible apply Pk.t)); exact rfl)))) | ((with_reducible apply t_nx F4.k); exact rfl; exact rfl) | with_reducible apply m_seq | (with_reducible apply m_reg mix) | with_reducible apply m_block | ((with_reducible apply m_ct); exact rfl) | ((with_reducible apply m_cf); exact rfl) | ((with_reducible apply m_skn); exact rfl) | ((with_reducible apply m_exn); exact rfl)))
  apply m_ret
  · rfl
  · (repeat (first | apply rs_nil | (apply rs_tmp; exact rfl) | (apply rs_cell; exact rfl; (repeat (first | with_reducible exact Pk.h | with_reducible apply Pk.t)); exact rfl)))
  · exact ⟨rfl, rfl⟩
  · exact (by repeat (first | apply Sx.nil | apply Pk.h | apply Sx.cons | apply Pk.t))

theorem whole_contract (H : Type) (enc : TypeId × Value → H) (W : World) (base : Nat) (args : Array Value) (ds gs : List (DataW H)) (before : List MemPlace)
    (hval : ∀ (j : Nat) t v, Try.f4.params[j]? = some t → args[j]? = some v → Value.okWide Try.prog W .any base t v)
    (hW : DataW.Whole enc Try.prog Try.f4.params.toList Rows.latchWholeSpec.vars false W args.toList ds gs before) :
    Calls Try.prog 4 args W fun e W' => ∃ v, e = .returned v ∧ Rows.latchWholeSpec.post enc Try.prog Try.f4 false true false false W args v W' := by
  have hW' := hW
  obtain ⟨p, q, hA0, hV, rfl, hfz, hnd⟩ := hW
  have hA : DataW.TrodAll enc Try.prog W 0 (fun _ => true) true Try.f4.params.toList args.toList ds p := hA0
  rw [Try.params4] at hA hval
  obtain ⟨v0, vs0, d0, ds0, p0, q0, hargs, rfl, rfl, h0, r0⟩ := trodAll_cons hA
  obtain ⟨rfl, rfl, rfl⟩ := trodAll_nil r0
  obtain rfl : args = #[v0] := by cases args; simp_all
  obtain ⟨acts, hsv, hal, hao⟩ := acts_arg (hval 0 22 v0 rfl rfl) h0
  exact law_calls laidOut mapsOk slPosOk hW' (by rw [Try.params4]; intro t ht; obtain rfl : t = 22 := (by simpa using ht); exact of_decide_eq_true (by kernel_rfl)) rfl rfl (by kernel_rfl) Try.underlying4 (Whole_law W acts v0 hsv hal hao)

theorem whole_lifted (os : Os) (started : os.Started) (H : Type) (enc : TypeId × Value → H) :
    ReturnsInHanded {} Try.checked os 4 .any (Rows.latchWholeSpec.pre6 enc Try.prog Try.f4 Rows.latchWholeRow.domain false) (Rows.latchWholeSpec.post enc Try.prog Try.f4 false true false false) := by
  refine returnsInHanded_of_change (C := Try.checked) own started (by kernel_rfl) Try.func4
    (ChangeSpec.witness6 (enc := enc) (C := Try.checked) false ⟨#[], #[.slice none 0 0], []⟩ 8 (by kernel_rfl) (by kernel_rfl) (by kernel_rfl) (by kernel_rfl)) ?_
  intro W base args ds gs before hval hW _ _
  exact whole_contract H enc W base args ds gs before hval hW

theorem whole_holds : Rows.LatchWholeSaid :=
  OpenClaim.holds_of_wide 4 Try.f4 rfl rfl rfl rfl rfl rfl rfl ⟨rfl, rfl, rfl, rfl, rfl⟩ rfl rfl rfl rfl rfl (by kernel_rfl) Try.func4 (by kernel_rfl)
    (of_decide_eq_true (by kernel_rfl)) (by unfold Func.isWrapper; first | (rw [if_pos (by decide +kernel)]; kernel_rfl) | (rw [if_neg (by decide +kernel)]; exact ⟨rfl, rfl⟩))
    (fun os started H enc _ => whole_lifted os started H enc)
#print axioms whole_holds
end Go.Proofs.Ythcbefkgfhokoaa

