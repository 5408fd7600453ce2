import Derived.Test.YthcbefkgfhokoaaC2
/- LatchHolds: whatever the input, it returns true and leaves its arguments as they were. No condition. -/
namespace Go.Proofs.Ythcbefkgfhokoaa
open Go Go.Dv Go.ChangeShapes Go.WideShapes Go.ChangeAt Go.RowKit
open Classical
set_option maxRecDepth 100000
attribute [local irreducible] HTh HM En Fsp TrA Cl MpA OwS RdS MpO TabA HsA TabL Old

def meT : Tx := ⟨77, 7⟩
def kO : ByteArray := ⟨#[111, 119, 110]⟩
def hdM (mn : Sm) : Hd := ⟨⟨1, 0⟩, mn, kO⟩
structure Mine (L : List In) (ws : List Wr) (mn : Sm) : Prop where
  mem : ∀ w ∈ ws, mkI meT (hdM mn) w ∈ L
  len : (byL L meT).length = ws.length
section
variable {L : List In} {ws : List Wr} {mn : Sm}
theorem layF_perm' (tx : Tx) (hd : Hd) : ∀ (ws : List Wr) (L : List In), (layF tx hd L ws).Perm (ws.map (mkI tx hd) ++ L)
  | [], L => List.Perm.refl _
  | w :: ws, L => by
    refine (layF_perm' tx hd ws (putL L (mkI tx hd w))).trans ?_
    rw [List.map_cons, List.cons_append]
    exact ((put_perm L _).append_left _).trans List.perm_middle
theorem mine_start (hr : rightL ws = true) : layE [] meT (hdM ⟨2, 0⟩) ws = 0 ∧ Mine (layL [] meT (hdM ⟨2, 0⟩) ws) ws ⟨2, 0⟩ := by
  have hA : layA (hdM ⟨2, 0⟩).start (hdM ⟨2, 0⟩).min (hdM ⟨2, 0⟩).prim ws = true := by
    unfold layA
    rw [hr]; decide
  have hB : layB [] meT ws = false := by
    unfold layB
    simp [byL, ofL]
  refine ⟨by simp [layE, hA, hB], ?_⟩
  have e : layL [] meT (hdM ⟨2, 0⟩) ws = layF meT (hdM ⟨2, 0⟩) [] ws := by simp [layL, hA, hB]
  rw [e]
  refine ⟨fun w hw => (layF_mem _ _ ws [] _).2 (.inl ⟨w, hw, rfl⟩), ?_⟩
  have h1 : (byL (layF meT (hdM ⟨2, 0⟩) [] ws) meT).Perm (ws.map (mkI meT (hdM ⟨2, 0⟩))) := by
    refine ((layF_perm' _ _ ws []).filter _).trans ?_
    rw [List.append_nil, List.filter_eq_self.2]
    intro y hy
    obtain ⟨w, _, rfl⟩ := List.mem_map.1 hy
    exact eqT_self meT
  rw [h1.length_eq, List.length_map]
theorem mine_not (hr : rightL ws = false) : layE [] meT (hdM ⟨2, 0⟩) ws = 1 := by
  have hA : layA (hdM ⟨2, 0⟩).start (hdM ⟨2, 0⟩).min (hdM ⟨2, 0⟩).prim ws = false := by
    unfold layA
    rw [hr]; rfl
  simp [layE, hA]
theorem mine_lay (h : Mine L ws mn) {tx : Tx} (hne : tx ≠ meT) (hd : Hd) (ws' : List Wr) : Mine (layL L tx hd ws') ws mn := by
  unfold layL
  split
  · split
    · exact h
    · refine ⟨fun w hw => (layF_mem _ _ _ _ _).2 (.inr (h.mem w hw)), ?_⟩
      have h1 : (byL (layF tx hd L ws') meT).Perm (byL L meT) := by
        refine ((layF_perm' tx hd ws' L).filter _).trans ?_
        rw [List.filter_append]
        have h2 : (ws'.map (mkI tx hd)).filter (fun y => eqT y.tx meT) = [] := by
          rw [List.filter_eq_nil_iff]
          intro y hy he
          obtain ⟨w, _, rfl⟩ := List.mem_map.1 hy
          exact hne (eqT_iff.1 he)
        rw [h2]
        exact List.Perm.refl _
      rw [h1.length_eq]
      exact h.len
  · exact h
theorem mine_cut (h : Mine L ws mn) {tx : Tx} (hne : tx ≠ meT) : Mine (cutL L tx) ws mn := by
  refine ⟨fun w hw => List.mem_filter.2 ⟨h.mem w hw, ?_⟩, ?_⟩
  · show (!eqT meT tx) = true
    rw [eqT_no (Ne.symm hne)]; rfl
  · have e : byL (cutL L tx) meT = byL L meT := by
      rw [byL, byL, cutL, List.filter_filter]
      apply List.filter_congr
      intro y _
      cases e : eqT y.tx meT with
      | false => rfl
      | true =>
        rw [eqT_iff] at e
        rw [e, eqT_no (Ne.symm hne)]; rfl
    rw [e]
    exact h.len
theorem raise_by (L : List In) (tx tx' : Tx) (s : Sm) : (byL (raiseL L tx s) tx').length = (byL L tx').length := by
  rw [byL, raiseL, List.filter_map, List.length_map]
  congr 1
  apply List.filter_congr
  intro y _
  show eqT (if eqT y.tx tx then { y with min := maxS y.min s } else y : In).tx tx' = _
  rw [(raise_key tx s y).2]
theorem mine_raise (h : Mine L ws mn) (tx : Tx) (s : Sm) : ∃ mn', Mine (raiseL L tx s) ws mn' ∧ (mn' = mn ∨ mn' = maxS mn s) := by
  by_cases he : tx = meT
  · subst he
    refine ⟨maxS mn s, ⟨fun w hw => ?_, by rw [raise_by]; exact h.len⟩, .inr rfl⟩
    refine List.mem_map.2 ⟨_, h.mem w hw, ?_⟩
    rw [show eqT (mkI meT (hdM mn) w).tx meT = true from eqT_self _, if_pos rfl]
    rfl
  · refine ⟨mn, ⟨fun w hw => ?_, by rw [raise_by]; exact h.len⟩, .inl rfl⟩
    refine List.mem_map.2 ⟨_, h.mem w hw, ?_⟩
    rw [show eqT (mkI meT (hdM mn) w).tx tx = false from eqT_no (Ne.symm he)]
    rfl
theorem mine_of (h : Mine L ws mn) (hs : SrtI L) {w : Wr} (hw : w ∈ ws) : ofL L w.key = some (mkI meT (hdM mn) w) := of_some hs (h.mem w hw) rfl
theorem mine_gone (h : Mine L ws mn) (hs : SrtI L) {w : Wr} (hw : w ∈ ws) : ofL (cutL L meT) w.key = none := by
  rw [ofL, List.find?_eq_none]
  intro y hy he
  obtain ⟨h1, h2⟩ := List.mem_filter.1 hy
  have he' : y.w.key = (mkI meT (hdM mn) w).w.key := of_decide_eq_true he
  have := key_inj hs h1 (h.mem w hw) he'
  rw [this] at h2
  rw [show eqT (mkI meT (hdM mn) w).tx meT = true from eqT_self _] at h2
  cases h2
end
theorem maxS_le (a s : Sm) : ¬ (maxS a s).p < a.p ∧ ¬ ((maxS a s).p = a.p ∧ (maxS a s).l < a.l) := by
  unfold maxS
  cases h : a.lt s with
  | false => simp
  | true =>
    rw [lt_plain] at h
    simp only [Bool.or_eq_true, Bool.and_eq_true, decide_eq_true_eq] at h
    simp only [if_true]
    omega
def geS (a b : Sm) : Prop := ¬ a.p < b.p ∧ ¬ (a.p = b.p ∧ a.l < b.l)
theorem geS_refl (a : Sm) : geS a a := ⟨by omega, by omega⟩
theorem cutb_len (L : List In) (tx : Tx) : byL (cutL L tx) tx = [] := by
  rw [byL, cutL, List.filter_filter, List.filter_eq_nil_iff]
  intro y _ h
  simp at h

theorem writes_arg {W : World} {r : Reach} {b : Nat} {v : Value} {H : Type} {enc : TypeId × Value → H} {sp : Nat → Bool} {held : Bool} {d : DataW H} {ps : List MemPlace} (h : Value.okWide Try.prog W r b 29 v) (ht : DataW.Trod enc Try.prog W 0 sp held 29 v d ps) :
    ∃ ws : List Wr, RdS (Old W) 3 v (wcs ws) ∧ ws.length ≤ maxLen := by
  obtain ⟨fuel, ht⟩ := ht
  have h29 : (29 : Nat) < Try.prog.types.size := of_decide_eq_true (by kernel_rfl)
  have hs : shOf Try.prog 7 29 = some (.sl 3 wrSh) := by kernel_rfl
  obtain ⟨a, l, c, rfl⟩ := okw_slice (e := 39) (by kernel_rfl) h
  obtain ⟨v, xs, hv, hr, hl, he⟩ := rdsh_of laidOut 7 29 _ fuel _ _ h29 hs ht
  obtain ⟨ws, rfl, _⟩ := list_choose (f := Wr.cells) (p := fun _ => True) fun x hx => rd_wr (he x hx)
  have hv' : v = .slice a l c := by
    have := congrArg (·[0]?) hv
    simpa [Value.cells] using this.symm
  subst hv'
  exact ⟨ws, hr, by simpa using hl⟩

theorem Holds_law (W : World) (ws : List Wr) (wv : Value) (acts : List Act) (sv : Value) (hwv : RdS (Old W) 3 wv (wcs ws)) (hwl : ws.length ≤ maxLen) (hsv : RdS (Old W) 12 sv (acs acts)) (hal : acts.length ≤ maxLen) (hao : ∀ a ∈ acts, a.ok (Old W)) :
    Fsp Try.prog 5 [wv, sv] [Old W] fun u aa' => u = .bool true ∧ aa' = [Old W] := by
  have hal2 : acts.length < 9223372036854775808 := Nat.lt_of_le_of_lt hal (by decide)
  have hwl2 : ws.length < 9223372036854775808 := Nat.lt_of_le_of_lt hwl (by decide)
  have hlay0 := Lay_L (Old W) 0 [] meT (hdM ⟨2, 0⟩) wv ws hwv hwl2 (by simp) ⟨⟨by decide, by decide⟩, ⟨by decide, by decide⟩⟩ ⟨by decide, by decide⟩
  clear hlay0
  have hLay := fun t => Lay_L (Old W) t [] meT (hdM ⟨2, 0⟩) wv ws hwv hwl2 (by simp) ⟨⟨by decide, by decide⟩, ⟨by decide, by decide⟩⟩ ⟨by decide, by decide⟩
  have hRL := RightL_spec (Old W) wv ws hwv hwl2
  obtain ⟨sa, sc, rfl⟩ := hsv.len
  obtain ⟨wa, wc, rfl⟩ := hwv.len
  have hacl : (acs acts).length = acts.length := by simp [acs]
  have hwcl := wcs_len ws
  rw [hacl] at hsv ⊢
  rw [hwcl] at hwv hLay hRL ⊢
  refine spec_of F5.ok rfl fun gl X => ?_
  dsimp only [List.cons_append, List.nil_append]
  (repeat (first | ((with_reducible apply t_run); exact rfl) | ((with_reducible apply t_p); exact rfl; exact rfl) | ((with_reducible apply t_gr); exact rfl) | ((with_reducible apply t_ge); exact rfl) | ((with_reducible apply t_ld); exact rfl; exact rfl; (repeat (first | with_reducible exact Pk.h | with_reducible apply Pk.t)); exact rfl) | ((with_reducible apply t_st); exact rfl; exact rfl; exact rfl; (repeat (first | with_reducible exact Pk.h | with_reducible apply Pk.t)); exact rfl; exact rfl; exact Nat.le_of_ble_eq_true rfl; exact rfl; (repeat (first | apply rk_nil | (apply rk_skip; exact rfl) | (apply rk_ld; exact rfl; (repeat (first | with_reducible exact Pk.h | with_reducible apply Pk.t)); exact rfl)))) | ((with_reducible apply t_nx F5.k); exact rfl; exact rfl) | with_reducible apply m_seq | (with_reducible apply m_reg mix) | with_reducible apply m_block | ((with_reducible apply m_ct); exact rfl) | ((with_reducible apply m_cf); exact rfl) | ((with_reducible apply m_skn); exact rfl) | ((with_reducible apply m_exn); exact rfl)))
  refine t_cl rfl rfl (awake_spec) (by repeat (first | apply Sx.nil | apply Pk.h | apply Sx.cons | apply Pk.t)) ?_
  rintro _ _ ⟨rfl, rfl⟩
  refine ⟨?_, ?_⟩ <;> (try dsimp only [List.cons_append, List.nil_append])
  · (repeat (first | apply rk_nil | (apply rk_skip; exact rfl) | (apply rk_ld; exact rfl; (repeat (first | with_reducible exact Pk.h | with_reducible apply Pk.t)); exact rfl)))
  (repeat (first | ((with_reducible apply t_run); exact rfl) | ((with_reducible apply t_p); exact rfl; exact rfl) | ((with_reducible apply t_gr); exact rfl) | ((with_reducible apply t_ge); exact rfl) | ((with_reducible apply t_ld); exact rfl; exact rfl; (repeat (first | with_reducible exact Pk.h | with_reducible apply Pk.t)); exact rfl) | ((with_reducible apply t_st); exact rfl; exact rfl; exact rfl; (repeat (first | with_reducible exact Pk.h | with_reducible apply Pk.t)); exact rfl; exact rfl; exact Nat.le_of_ble_eq_true rfl; exact rfl; (repeat (first | apply rk_nil | (apply rk_skip; exact rfl) | (apply rk_ld; exact rfl; (repeat (first | with_reducible exact Pk.h | with_reducible apply Pk.t)); exact rfl)))) | ((with_reducible apply t_nx F5.k); exact rfl; exact rfl) | with_reducible apply m_seq | (with_reducible apply m_reg mix) | with_reducible apply m_block | ((with_reducible apply m_ct); exact rfl) | ((with_reducible apply m_cf); exact rfl) | ((with_reducible apply m_skn); exact rfl) | ((with_reducible apply m_exn); exact rfl)))
  refine t_cl rfl rfl (New_L) (by repeat (first | apply Sx.nil | apply Pk.h | apply Sx.cons | apply Pk.t)) ?_
  rintro _ _ ⟨t, rfl, rfl⟩
  refine ⟨?_, ?_⟩ <;> (try dsimp only [List.cons_append, List.nil_append])
  · (repeat (first | apply rk_nil | (apply rk_skip; exact rfl) | (apply rk_ld; exact rfl; (repeat (first | with_reducible exact Pk.h | with_reducible apply Pk.t)); exact rfl)))
  (repeat (first | ((with_reducible apply t_run); exact rfl) | ((with_reducible apply t_p); exact rfl; exact rfl) | ((with_reducible apply t_gr); exact rfl) | ((with_reducible apply t_ge); exact rfl) | ((with_reducible apply t_ld); exact rfl; exact rfl; (repeat (first | with_reducible exact Pk.h | with_reducible apply Pk.t)); exact rfl) | ((with_reducible apply t_st); exact rfl; exact rfl; exact rfl; (repeat (first | with_reducible exact Pk.h | with_reducible apply Pk.t)); exact rfl; exact rfl; exact Nat.le_of_ble_eq_true rfl; exact rfl; (repeat (first | apply rk_nil | (apply rk_skip; exact rfl) | (apply rk_ld; exact rfl; (repeat (first | with_reducible exact Pk.h | with_reducible apply Pk.t)); exact rfl)))) | ((with_reducible apply t_nx F5.k); exact rfl; exact rfl) | with_reducible apply m_seq | (with_reducible apply m_reg mix) | with_reducible apply m_block | ((with_reducible apply m_ct); exact rfl) | ((with_reducible apply m_cf); exact rfl) | ((with_reducible apply m_skn); exact rfl) | ((with_reducible apply m_exn); exact rfl)))
  refine t_al rfl fun b6 => ⟨(by (repeat (first | apply rk_nil | (apply rk_skip; exact rfl) | (apply rk_ld; exact rfl; (repeat (first | with_reducible exact Pk.h | with_reducible apply Pk.t)); exact rfl)))), ?_⟩
  (repeat (first | ((with_reducible apply t_run); exact rfl) | ((with_reducible apply t_p); exact rfl; exact rfl) | ((with_reducible apply t_gr); exact rfl) | ((with_reducible apply t_ge); exact rfl) | ((with_reducible apply t_ld); exact rfl; exact rfl; (repeat (first | with_reducible exact Pk.h | with_reducible apply Pk.t)); exact rfl) | ((with_reducible apply t_st); exact rfl; exact rfl; exact rfl; (repeat (first | with_reducible exact Pk.h | with_reducible apply Pk.t)); exact rfl; exact rfl; exact Nat.le_of_ble_eq_true rfl; exact rfl; (repeat (first | apply rk_nil | (apply rk_skip; exact rfl) | (apply rk_ld; exact rfl; (repeat (first | with_reducible exact Pk.h | with_reducible apply Pk.t)); exact rfl)))) | ((with_reducible apply t_nx F5.k); exact rfl; exact rfl) | with_reducible apply m_seq | (with_reducible apply m_reg mix) | with_reducible apply m_block | ((with_reducible apply m_ct); exact rfl) | ((with_reducible apply m_cf); exact rfl) | ((with_reducible apply m_skn); exact rfl) | ((with_reducible apply m_exn); exact rfl)))
  cases hr : rightL ws with
  | false =>
    rw [hr] at hRL
    have hn := mine_not hr
    rw [hn] at hLay
    refine t_cl rfl rfl (hLay t) (by repeat (first | apply Sx.nil | apply Pk.h | apply Sx.cons | apply Pk.t)) ?_
    rintro _ _ ⟨rfl, rfl⟩
    refine ⟨?_, ?_⟩ <;> (try dsimp only [List.cons_append, List.nil_append])
    · (repeat (first | apply rk_nil | (apply rk_skip; exact rfl) | (apply rk_ld; exact rfl; (repeat (first | with_reducible exact Pk.h | with_reducible apply Pk.t)); exact rfl)))
    (repeat (first | ((with_reducible apply t_run); exact rfl) | ((with_reducible apply t_p); exact rfl; exact rfl) | ((with_reducible apply t_gr); exact rfl) | ((with_reducible apply t_ge); exact rfl) | ((with_reducible apply t_ld); exact rfl; exact rfl; (repeat (first | with_reducible exact Pk.h | with_reducible apply Pk.t)); exact rfl) | ((with_reducible apply t_st); exact rfl; exact rfl; exact rfl; (repeat (first | with_reducible exact Pk.h | with_reducible apply Pk.t)); exact rfl; exact rfl; exact Nat.le_of_ble_eq_true rfl; exact rfl; (repeat (first | apply rk_nil | (apply rk_skip; exact rfl) | (apply rk_ld; exact rfl; (repeat (first | with_reducible exact Pk.h | with_reducible apply Pk.t)); exact rfl)))) | ((with_reducible apply t_nx F5.k); exact rfl; exact rfl) | with_reducible apply m_seq | (with_reducible apply m_reg mix) | with_reducible apply m_block | ((with_reducible apply m_ct); exact rfl) | ((with_reducible apply m_cf); exact rfl) | ((with_reducible apply m_skn); exact rfl) | ((with_reducible apply m_exn); exact rfl)))
    refine t_cl rfl rfl (hRL) (by repeat (first | apply Sx.nil | apply Pk.h | apply Sx.cons | apply Pk.t)) ?_
    rintro _ _ ⟨rfl, rfl⟩
    refine ⟨?_, ?_⟩ <;> (try dsimp only [List.cons_append, List.nil_append])
    · (repeat (first | apply rk_nil | (apply rk_skip; exact rfl) | (apply rk_ld; exact rfl; (repeat (first | with_reducible exact Pk.h | with_reducible apply Pk.t)); exact rfl)))
    (repeat (first | ((with_reducible apply t_run); exact rfl) | ((with_reducible apply t_p); exact rfl; exact rfl) | ((with_reducible apply t_gr); exact rfl) | ((with_reducible apply t_ge); exact rfl) | ((with_reducible apply t_ld); exact rfl; exact rfl; (repeat (first | with_reducible exact Pk.h | with_reducible apply Pk.t)); exact rfl) | ((with_reducible apply t_st); exact rfl; exact rfl; exact rfl; (repeat (first | with_reducible exact Pk.h | with_reducible apply Pk.t)); exact rfl; exact rfl; exact Nat.le_of_ble_eq_true rfl; exact rfl; (repeat (first | apply rk_nil | (apply rk_skip; exact rfl) | (apply rk_ld; exact rfl; (repeat (first | with_reducible exact Pk.h | with_reducible apply Pk.t)); exact rfl)))) | ((with_reducible apply t_nx F5.k); exact rfl; exact rfl) | with_reducible apply m_seq | (with_reducible apply m_reg mix) | with_reducible apply m_block | ((with_reducible apply m_ct); exact rfl) | ((with_reducible apply m_cf); exact rfl) | ((with_reducible apply m_skn); exact rfl) | ((with_reducible apply m_exn); exact rfl)))
    apply m_ret
    · rfl
    · (repeat (first | apply rs_nil | (apply rs_tmp; exact rfl) | (apply rs_cell; exact rfl; (repeat (first | with_reducible exact Pk.h | with_reducible apply Pk.t)); exact rfl)))
    · exact ⟨rfl, rfl⟩
    · exact (by repeat (first | apply Sx.nil | apply Pk.h | apply Sx.cons | apply Pk.t))
  | true =>
  obtain ⟨hn, hM0⟩ := mine_start hr
  obtain ⟨hne, h16, hdist⟩ := rightL_ok hr
  have hwpos : 0 < ws.length := List.length_pos_iff.2 hne
  have hG0 := good_lay (L := []) (n := 0) ⟨by simp, by simp⟩ meT (hdM ⟨2, 0⟩) ws
  simp only [hn] at hLay
  refine t_cl rfl rfl (hLay t) (by repeat (first | apply Sx.nil | apply Pk.h | apply Sx.cons | apply Pk.t)) ?_
  rintro _ _ ⟨rfl, rfl⟩
  refine ⟨?_, ?_⟩ <;> (try dsimp only [List.cons_append, List.nil_append])
  · (repeat (first | apply rk_nil | (apply rk_skip; exact rfl) | (apply rk_ld; exact rfl; (repeat (first | with_reducible exact Pk.h | with_reducible apply Pk.t)); exact rfl)))
  generalize layL [] meT (hdM ⟨2, 0⟩) ws = L0 at hM0 hG0 ⊢
  clear hLay hRL hn
  (repeat (first | ((with_reducible apply t_run); exact rfl) | ((with_reducible apply t_p); exact rfl; exact rfl) | ((with_reducible apply t_gr); exact rfl) | ((with_reducible apply t_ge); exact rfl) | ((with_reducible apply t_ld); exact rfl; exact rfl; (repeat (first | with_reducible exact Pk.h | with_reducible apply Pk.t)); exact rfl) | ((with_reducible apply t_st); exact rfl; exact rfl; exact rfl; (repeat (first | with_reducible exact Pk.h | with_reducible apply Pk.t)); exact rfl; exact rfl; exact Nat.le_of_ble_eq_true rfl; exact rfl; (repeat (first | apply rk_nil | (apply rk_skip; exact rfl) | (apply rk_ld; exact rfl; (repeat (first | with_reducible exact Pk.h | with_reducible apply Pk.t)); exact rfl)))) | ((with_reducible apply t_nx F5.k); exact rfl; exact rfl) | with_reducible apply m_seq | (with_reducible apply m_reg mix) | with_reducible apply m_block | ((with_reducible apply m_ct); exact rfl) | ((with_reducible apply m_cf); exact rfl) | ((with_reducible apply m_skn); exact rfl) | ((with_reducible apply m_exn); exact rfl)))
  refine t_al rfl fun b7 => ⟨(by (repeat (first | apply rk_nil | (apply rk_skip; exact rfl) | (apply rk_ld; exact rfl; (repeat (first | with_reducible exact Pk.h | with_reducible apply Pk.t)); exact rfl)))), ?_⟩
  (repeat (first | ((with_reducible apply t_run); exact rfl) | ((with_reducible apply t_p); exact rfl; exact rfl) | ((with_reducible apply t_gr); exact rfl) | ((with_reducible apply t_ge); exact rfl) | ((with_reducible apply t_ld); exact rfl; exact rfl; (repeat (first | with_reducible exact Pk.h | with_reducible apply Pk.t)); exact rfl) | ((with_reducible apply t_st); exact rfl; exact rfl; exact rfl; (repeat (first | with_reducible exact Pk.h | with_reducible apply Pk.t)); exact rfl; exact rfl; exact Nat.le_of_ble_eq_true rfl; exact rfl; (repeat (first | apply rk_nil | (apply rk_skip; exact rfl) | (apply rk_ld; exact rfl; (repeat (first | with_reducible exact Pk.h | with_reducible apply Pk.t)); exact rfl)))) | ((with_reducible apply t_nx F5.k); exact rfl; exact rfl) | with_reducible apply m_seq | (with_reducible apply m_reg mix) | with_reducible apply m_block | ((with_reducible apply m_ct); exact rfl) | ((with_reducible apply m_cf); exact rfl) | ((with_reducible apply m_skn); exact rfl) | ((with_reducible apply m_exn); exact rfl)))
  refine m_cutb (i := 0) (α := List In × Sm) (fun _ => [(0, .slice wa ws.length wc), (5, .pointer (some ⟨t, 0, none⟩)), (6, .pointer (some ⟨b6, 0, none⟩))]) (fun z => [TabL t z.1, Old W, Cl b6 25 [.int .u32 77, .int .u32 7], X]) (fun z => Mine z.1 ws z.2 ∧ Good z.1 1616) rfl rfl ?_ ?_
  · refine m_lp (α := Nat × List In × Sm) (fun z => (36, .int .i64 (z.1 : Nat)) :: [(34, .slice sa acts.length sc), (35, .int .i64 (acts.length : Nat)), (0, .slice wa ws.length wc), (5, .pointer (some ⟨t, 0, none⟩)), (6, .pointer (some ⟨b6, 0, none⟩)), (7, .pointer (some ⟨b7, 0, none⟩))])
      (fun z => [TabL t z.2.1, Old W, Cl b6 25 [.int .u32 77, .int .u32 7], Cl b7 28 z.2.2.cells, X]) (fun z => z.1 ≤ acts.length ∧ z.1 ≤ 100 ∧ Good z.2.1 (16 + 16 * z.1) ∧ Mine z.2.1 ws z.2.2) (fun z => acts.length - z.1) ?_ (0, L0, ⟨2, 0⟩) ⟨by simp, by simp, hG0, hM0⟩ [36, 34, 35, 0, 5, 6, 7] rfl (by repeat (first | apply Sx.nil | apply Pk.h | apply Sx.cons | apply Pk.t))
    rintro ⟨i, L, mn⟩ ⟨hi, hi60, hG, hM⟩
    dsimp only at hi hi60 hG hM ⊢
    (repeat (first | ((with_reducible apply t_run); exact rfl) | ((with_reducible apply t_p); exact rfl; exact rfl) | ((with_reducible apply t_gr); exact rfl) | ((with_reducible apply t_ge); exact rfl) | ((with_reducible apply t_ld); exact rfl; exact rfl; (repeat (first | with_reducible exact Pk.h | with_reducible apply Pk.t)); exact rfl) | ((with_reducible apply t_st); exact rfl; exact rfl; exact rfl; (repeat (first | with_reducible exact Pk.h | with_reducible apply Pk.t)); exact rfl; exact rfl; exact Nat.le_of_ble_eq_true rfl; exact rfl; (repeat (first | apply rk_nil | (apply rk_skip; exact rfl) | (apply rk_ld; exact rfl; (repeat (first | with_reducible exact Pk.h | with_reducible apply Pk.t)); exact rfl)))) | ((with_reducible apply t_nx F5.k); exact rfl; exact rfl) | with_reducible apply m_seq | (with_reducible apply m_reg mix) | with_reducible apply m_block | ((with_reducible apply m_ct); exact rfl) | ((with_reducible apply m_cf); exact rfl) | ((with_reducible apply m_skn); exact rfl) | ((with_reducible apply m_exn); exact rfl)))
    refine m_cond rfl (fun q1 => ?_) (fun q1 => ?_)
    · have hi' : i < acts.length := by have := of_decide_eq_true q1; omega
      obtain ⟨b, o, rfl, _⟩ := hsv.ptr (by rw [hacl]; omega)
      have hok := hao acts[i] (List.getElem_mem hi')
      (repeat (first | ((with_reducible apply t_run); exact rfl) | ((with_reducible apply t_p); exact rfl; exact rfl) | ((with_reducible apply t_gr); exact rfl) | ((with_reducible apply t_ge); exact rfl) | ((with_reducible apply t_ld); exact rfl; exact rfl; (repeat (first | with_reducible exact Pk.h | with_reducible apply Pk.t)); exact rfl) | ((with_reducible apply t_st); exact rfl; exact rfl; exact rfl; (repeat (first | with_reducible exact Pk.h | with_reducible apply Pk.t)); exact rfl; exact rfl; exact Nat.le_of_ble_eq_true rfl; exact rfl; (repeat (first | apply rk_nil | (apply rk_skip; exact rfl) | (apply rk_ld; exact rfl; (repeat (first | with_reducible exact Pk.h | with_reducible apply Pk.t)); exact rfl)))) | ((with_reducible apply t_nx F5.k); exact rfl; exact rfl) | with_reducible apply m_seq | (with_reducible apply m_reg mix) | with_reducible apply m_block | ((with_reducible apply m_ct); exact rfl) | ((with_reducible apply m_cf); exact rfl) | ((with_reducible apply m_skn); exact rfl) | ((with_reducible apply m_exn); exact rfl)))
      refine t_ia i rfl rfl rfl hi' ?_
      refine t_la rfl rfl (R := Old W) (by repeat (first | with_reducible exact Pk.h | with_reducible apply Pk.t)) (hsv.at (by decide) (i := i) (x := acts[i].cells) (by simp [acs, hi'])) ?_
      generalize acts[i] = a at hok ⊢
      obtain ⟨aw, ⟨ac, an⟩, ⟨ap, al⟩, ⟨amp, aml⟩, apr, awv, aws, afr, ati, abv, abu⟩ := a
      have hws := hok.ws
      have hbu := hok.but
      obtain ⟨wa2, wc2, he⟩ := hws.len
      dsimp only at he hws hbu
      subst he
      obtain ⟨ba, bc, he⟩ := hbu.len
      subst he
      rw [wcs_len] at hws
      have hLl := hG.len
      have hCut := Cut_L t L ⟨ac, an⟩ hok.tx
      have hLay := Lay_L (Old W) t L ⟨ac, an⟩ ⟨⟨ap, al⟩, ⟨amp, aml⟩, apr⟩ _ aws hws (Nat.lt_of_le_of_lt hok.wl (by decide)) (by omega) hok.tx hok.min
      have hRai := Raise_L t L ⟨ac, an⟩ ⟨amp, aml⟩ hok.tx hok.min
      clear hok
      rw [wcs_len]
      simp only [Act.cells]
      refine t_al rfl fun b9 => ⟨(by (repeat (first | apply rk_nil | (apply rk_skip; exact rfl) | (apply rk_ld; exact rfl; (repeat (first | with_reducible exact Pk.h | with_reducible apply Pk.t)); exact rfl)))), ?_⟩
      (repeat (first | ((with_reducible apply t_run); exact rfl) | ((with_reducible apply t_p); exact rfl; exact rfl) | ((with_reducible apply t_gr); exact rfl) | ((with_reducible apply t_ge); exact rfl) | ((with_reducible apply t_ld); exact rfl; exact rfl; (repeat (first | with_reducible exact Pk.h | with_reducible apply Pk.t)); exact rfl) | ((with_reducible apply t_st); exact rfl; exact rfl; exact rfl; (repeat (first | with_reducible exact Pk.h | with_reducible apply Pk.t)); exact rfl; exact rfl; exact Nat.le_of_ble_eq_true rfl; exact rfl; (repeat (first | apply rk_nil | (apply rk_skip; exact rfl) | (apply rk_ld; exact rfl; (repeat (first | with_reducible exact Pk.h | with_reducible apply Pk.t)); exact rfl)))) | ((with_reducible apply t_nx F5.k); exact rfl; exact rfl) | with_reducible apply m_seq | (with_reducible apply m_reg mix) | with_reducible apply m_block | ((with_reducible apply m_ct); exact rfl) | ((with_reducible apply m_cf); exact rfl) | ((with_reducible apply m_skn); exact rfl) | ((with_reducible apply m_exn); exact rfl)))
      refine m_cond rfl (fun q2 => ?_) (fun q2 => ?_)
      · refine m_emeet (α := List In × Sm) rfl (L, mn) ⟨hM, good_mono hG (by omega)⟩ [0, 5, 6] rfl (by repeat (first | apply Sx.nil | apply Pk.h | apply Sx.cons | apply Pk.t))
      have hi60' : i < 100 := by have := of_decide_eq_false q2; omega
      (repeat (first | ((with_reducible apply t_run); exact rfl) | ((with_reducible apply t_p); exact rfl; exact rfl) | ((with_reducible apply t_gr); exact rfl) | ((with_reducible apply t_ge); exact rfl) | ((with_reducible apply t_ld); exact rfl; exact rfl; (repeat (first | with_reducible exact Pk.h | with_reducible apply Pk.t)); exact rfl) | ((with_reducible apply t_st); exact rfl; exact rfl; exact rfl; (repeat (first | with_reducible exact Pk.h | with_reducible apply Pk.t)); exact rfl; exact rfl; exact Nat.le_of_ble_eq_true rfl; exact rfl; (repeat (first | apply rk_nil | (apply rk_skip; exact rfl) | (apply rk_ld; exact rfl; (repeat (first | with_reducible exact Pk.h | with_reducible apply Pk.t)); exact rfl)))) | ((with_reducible apply t_nx F5.k); exact rfl; exact rfl) | with_reducible apply m_seq | (with_reducible apply m_reg mix) | with_reducible apply m_block | ((with_reducible apply m_ct); exact rfl) | ((with_reducible apply m_cf); exact rfl) | ((with_reducible apply m_skn); exact rfl) | ((with_reducible apply m_exn); exact rfl)))
      refine m_cutn (α := List In × Sm) (fun _ => [(36, .int .i64 (i : Nat)), (34, .slice (some ⟨b, o, none⟩) acts.length sc), (35, .int .i64 (acts.length : Nat)), (0, .slice wa ws.length wc), (5, .pointer (some ⟨t, 0, none⟩)), (6, .pointer (some ⟨b6, 0, none⟩)), (7, .pointer (some ⟨b7, 0, none⟩))]) (fun z => [TabL t z.1, Old W, Cl b6 25 [.int .u32 77, .int .u32 7], Cl b7 28 mn.cells, X]) (fun z => Good z.1 (16 + 16 * (i + 1)) ∧ Mine z.1 ws z.2 ∧ geS z.2 mn) rfl ?_ ?_
      · refine m_cond rfl (fun p1 => ?_) (fun p1 => ?_)
        · (repeat (first | ((with_reducible apply t_run); exact rfl) | ((with_reducible apply t_p); exact rfl; exact rfl) | ((with_reducible apply t_gr); exact rfl) | ((with_reducible apply t_ge); exact rfl) | ((with_reducible apply t_ld); exact rfl; exact rfl; (repeat (first | with_reducible exact Pk.h | with_reducible apply Pk.t)); exact rfl) | ((with_reducible apply t_st); exact rfl; exact rfl; exact rfl; (repeat (first | with_reducible exact Pk.h | with_reducible apply Pk.t)); exact rfl; exact rfl; exact Nat.le_of_ble_eq_true rfl; exact rfl; (repeat (first | apply rk_nil | (apply rk_skip; exact rfl) | (apply rk_ld; exact rfl; (repeat (first | with_reducible exact Pk.h | with_reducible apply Pk.t)); exact rfl)))) | ((with_reducible apply t_nx F5.k); exact rfl; exact rfl) | with_reducible apply m_seq | (with_reducible apply m_reg mix) | with_reducible apply m_block | ((with_reducible apply m_ct); exact rfl) | ((with_reducible apply m_cf); exact rfl) | ((with_reducible apply m_skn); exact rfl) | ((with_reducible apply m_exn); exact rfl)))
          refine t_cl rfl rfl (hRai) (by repeat (first | apply Sx.nil | apply Pk.h | apply Sx.cons | apply Pk.t)) ?_
          rintro _ _ ⟨rfl, rfl⟩
          refine ⟨?_, ?_⟩ <;> (try dsimp only [List.cons_append, List.nil_append])
          · (repeat (first | apply rk_nil | (apply rk_skip; exact rfl) | (apply rk_ld; exact rfl; (repeat (first | with_reducible exact Pk.h | with_reducible apply Pk.t)); exact rfl)))
          (repeat (first | ((with_reducible apply t_run); exact rfl) | ((with_reducible apply t_p); exact rfl; exact rfl) | ((with_reducible apply t_gr); exact rfl) | ((with_reducible apply t_ge); exact rfl) | ((with_reducible apply t_ld); exact rfl; exact rfl; (repeat (first | with_reducible exact Pk.h | with_reducible apply Pk.t)); exact rfl) | ((with_reducible apply t_st); exact rfl; exact rfl; exact rfl; (repeat (first | with_reducible exact Pk.h | with_reducible apply Pk.t)); exact rfl; exact rfl; exact Nat.le_of_ble_eq_true rfl; exact rfl; (repeat (first | apply rk_nil | (apply rk_skip; exact rfl) | (apply rk_ld; exact rfl; (repeat (first | with_reducible exact Pk.h | with_reducible apply Pk.t)); exact rfl)))) | ((with_reducible apply t_nx F5.k); exact rfl; exact rfl) | with_reducible apply m_seq | (with_reducible apply m_reg mix) | with_reducible apply m_block | ((with_reducible apply m_ct); exact rfl) | ((with_reducible apply m_cf); exact rfl) | ((with_reducible apply m_skn); exact rfl) | ((with_reducible apply m_exn); exact rfl)))
          generalize (!(byL L ⟨ac, an⟩).isEmpty && (Sm.mk amp aml).ok) = cc
          cases cc with
          | false => refine t_meet rfl (L, mn) ⟨good_mono hG (by omega), hM, geS_refl mn⟩ [36, 34, 35, 0, 5, 6, 7] rfl (by repeat (first | apply Sx.nil | apply Pk.h | apply Sx.cons | apply Pk.t))
          | true =>
            obtain ⟨mn', hM', hor⟩ := mine_raise hM ⟨ac, an⟩ ⟨amp, aml⟩
            refine t_meet rfl (raiseL L ⟨ac, an⟩ ⟨amp, aml⟩, mn') ⟨good_mono (good_raise hG _ _) (by omega), hM', ?_⟩ [36, 34, 35, 0, 5, 6, 7] rfl (by repeat (first | apply Sx.nil | apply Pk.h | apply Sx.cons | apply Pk.t))
            rcases hor with rfl | rfl
            · exact geS_refl _
            · exact maxS_le _ _
        · (repeat (first | ((with_reducible apply t_run); exact rfl) | ((with_reducible apply t_p); exact rfl; exact rfl) | ((with_reducible apply t_gr); exact rfl) | ((with_reducible apply t_ge); exact rfl) | ((with_reducible apply t_ld); exact rfl; exact rfl; (repeat (first | with_reducible exact Pk.h | with_reducible apply Pk.t)); exact rfl) | ((with_reducible apply t_st); exact rfl; exact rfl; exact rfl; (repeat (first | with_reducible exact Pk.h | with_reducible apply Pk.t)); exact rfl; exact rfl; exact Nat.le_of_ble_eq_true rfl; exact rfl; (repeat (first | apply rk_nil | (apply rk_skip; exact rfl) | (apply rk_ld; exact rfl; (repeat (first | with_reducible exact Pk.h | with_reducible apply Pk.t)); exact rfl)))) | ((with_reducible apply t_nx F5.k); exact rfl; exact rfl) | with_reducible apply m_seq | (with_reducible apply m_reg mix) | with_reducible apply m_block | ((with_reducible apply m_ct); exact rfl) | ((with_reducible apply m_cf); exact rfl) | ((with_reducible apply m_skn); exact rfl) | ((with_reducible apply m_exn); exact rfl)))
          refine m_cond rfl (fun p2 => ?_) (fun p2 => ?_)
          · refine m_meet rfl (L, mn) ⟨good_mono hG (by omega), hM, geS_refl mn⟩ [36, 34, 35, 0, 5, 6, 7] rfl (by repeat (first | apply Sx.nil | apply Pk.h | apply Sx.cons | apply Pk.t))
          have hno : (⟨ac, an⟩ : Tx) ≠ meT := by
            intro h
            rw [meT, Tx.mk.injEq] at h
            rw [h.1, h.2] at p2
            exact absurd p2 (by decide)
          (repeat (first | ((with_reducible apply t_run); exact rfl) | ((with_reducible apply t_p); exact rfl; exact rfl) | ((with_reducible apply t_gr); exact rfl) | ((with_reducible apply t_ge); exact rfl) | ((with_reducible apply t_ld); exact rfl; exact rfl; (repeat (first | with_reducible exact Pk.h | with_reducible apply Pk.t)); exact rfl) | ((with_reducible apply t_st); exact rfl; exact rfl; exact rfl; (repeat (first | with_reducible exact Pk.h | with_reducible apply Pk.t)); exact rfl; exact rfl; exact Nat.le_of_ble_eq_true rfl; exact rfl; (repeat (first | apply rk_nil | (apply rk_skip; exact rfl) | (apply rk_ld; exact rfl; (repeat (first | with_reducible exact Pk.h | with_reducible apply Pk.t)); exact rfl)))) | ((with_reducible apply t_nx F5.k); exact rfl; exact rfl) | with_reducible apply m_seq | (with_reducible apply m_reg mix) | with_reducible apply m_block | ((with_reducible apply m_ct); exact rfl) | ((with_reducible apply m_cf); exact rfl) | ((with_reducible apply m_skn); exact rfl) | ((with_reducible apply m_exn); exact rfl)))
          refine m_cond rfl (fun p3 => ?_) (fun p3 => ?_)
          · (repeat (first | ((with_reducible apply t_run); exact rfl) | ((with_reducible apply t_p); exact rfl; exact rfl) | ((with_reducible apply t_gr); exact rfl) | ((with_reducible apply t_ge); exact rfl) | ((with_reducible apply t_ld); exact rfl; exact rfl; (repeat (first | with_reducible exact Pk.h | with_reducible apply Pk.t)); exact rfl) | ((with_reducible apply t_st); exact rfl; exact rfl; exact rfl; (repeat (first | with_reducible exact Pk.h | with_reducible apply Pk.t)); exact rfl; exact rfl; exact Nat.le_of_ble_eq_true rfl; exact rfl; (repeat (first | apply rk_nil | (apply rk_skip; exact rfl) | (apply rk_ld; exact rfl; (repeat (first | with_reducible exact Pk.h | with_reducible apply Pk.t)); exact rfl)))) | ((with_reducible apply t_nx F5.k); exact rfl; exact rfl) | with_reducible apply m_seq | (with_reducible apply m_reg mix) | with_reducible apply m_block | ((with_reducible apply m_ct); exact rfl) | ((with_reducible apply m_cf); exact rfl) | ((with_reducible apply m_skn); exact rfl) | ((with_reducible apply m_exn); exact rfl)))
            refine t_cl rfl rfl (hLay) (by repeat (first | apply Sx.nil | apply Pk.h | apply Sx.cons | apply Pk.t)) ?_
            rintro _ _ ⟨rfl, rfl⟩
            refine ⟨?_, ?_⟩ <;> (try dsimp only [List.cons_append, List.nil_append])
            · (repeat (first | apply rk_nil | (apply rk_skip; exact rfl) | (apply rk_ld; exact rfl; (repeat (first | with_reducible exact Pk.h | with_reducible apply Pk.t)); exact rfl)))
            (repeat (first | ((with_reducible apply t_run); exact rfl) | ((with_reducible apply t_p); exact rfl; exact rfl) | ((with_reducible apply t_gr); exact rfl) | ((with_reducible apply t_ge); exact rfl) | ((with_reducible apply t_ld); exact rfl; exact rfl; (repeat (first | with_reducible exact Pk.h | with_reducible apply Pk.t)); exact rfl) | ((with_reducible apply t_st); exact rfl; exact rfl; exact rfl; (repeat (first | with_reducible exact Pk.h | with_reducible apply Pk.t)); exact rfl; exact rfl; exact Nat.le_of_ble_eq_true rfl; exact rfl; (repeat (first | apply rk_nil | (apply rk_skip; exact rfl) | (apply rk_ld; exact rfl; (repeat (first | with_reducible exact Pk.h | with_reducible apply Pk.t)); exact rfl)))) | ((with_reducible apply t_nx F5.k); exact rfl; exact rfl) | with_reducible apply m_seq | (with_reducible apply m_reg mix) | with_reducible apply m_block | ((with_reducible apply m_ct); exact rfl) | ((with_reducible apply m_cf); exact rfl) | ((with_reducible apply m_skn); exact rfl) | ((with_reducible apply m_exn); exact rfl)))
            refine t_meet rfl (layL L ⟨ac, an⟩ ⟨⟨ap, al⟩, ⟨amp, aml⟩, apr⟩ aws, mn) ⟨good_mono (good_lay hG _ _ _) (by omega), mine_lay hM hno _ _, geS_refl mn⟩ [36, 34, 35, 0, 5, 6, 7] rfl (by repeat (first | apply Sx.nil | apply Pk.h | apply Sx.cons | apply Pk.t))
          · (repeat (first | ((with_reducible apply t_run); exact rfl) | ((with_reducible apply t_p); exact rfl; exact rfl) | ((with_reducible apply t_gr); exact rfl) | ((with_reducible apply t_ge); exact rfl) | ((with_reducible apply t_ld); exact rfl; exact rfl; (repeat (first | with_reducible exact Pk.h | with_reducible apply Pk.t)); exact rfl) | ((with_reducible apply t_st); exact rfl; exact rfl; exact rfl; (repeat (first | with_reducible exact Pk.h | with_reducible apply Pk.t)); exact rfl; exact rfl; exact Nat.le_of_ble_eq_true rfl; exact rfl; (repeat (first | apply rk_nil | (apply rk_skip; exact rfl) | (apply rk_ld; exact rfl; (repeat (first | with_reducible exact Pk.h | with_reducible apply Pk.t)); exact rfl)))) | ((with_reducible apply t_nx F5.k); exact rfl; exact rfl) | with_reducible apply m_seq | (with_reducible apply m_reg mix) | with_reducible apply m_block | ((with_reducible apply m_ct); exact rfl) | ((with_reducible apply m_cf); exact rfl) | ((with_reducible apply m_skn); exact rfl) | ((with_reducible apply m_exn); exact rfl)))
            refine m_cond rfl (fun p4 => ?_) (fun p4 => ?_)
            · (repeat (first | ((with_reducible apply t_run); exact rfl) | ((with_reducible apply t_p); exact rfl; exact rfl) | ((with_reducible apply t_gr); exact rfl) | ((with_reducible apply t_ge); exact rfl) | ((with_reducible apply t_ld); exact rfl; exact rfl; (repeat (first | with_reducible exact Pk.h | with_reducible apply Pk.t)); exact rfl) | ((with_reducible apply t_st); exact rfl; exact rfl; exact rfl; (repeat (first | with_reducible exact Pk.h | with_reducible apply Pk.t)); exact rfl; exact rfl; exact Nat.le_of_ble_eq_true rfl; exact rfl; (repeat (first | apply rk_nil | (apply rk_skip; exact rfl) | (apply rk_ld; exact rfl; (repeat (first | with_reducible exact Pk.h | with_reducible apply Pk.t)); exact rfl)))) | ((with_reducible apply t_nx F5.k); exact rfl; exact rfl) | with_reducible apply m_seq | (with_reducible apply m_reg mix) | with_reducible apply m_block | ((with_reducible apply m_ct); exact rfl) | ((with_reducible apply m_cf); exact rfl) | ((with_reducible apply m_skn); exact rfl) | ((with_reducible apply m_exn); exact rfl)))
              refine t_cl rfl rfl (hCut) (by repeat (first | apply Sx.nil | apply Pk.h | apply Sx.cons | apply Pk.t)) ?_
              rintro _ _ rfl
              refine ⟨?_, ?_⟩ <;> (try dsimp only [List.cons_append, List.nil_append])
              · (repeat (first | apply rk_nil | (apply rk_skip; exact rfl) | (apply rk_ld; exact rfl; (repeat (first | with_reducible exact Pk.h | with_reducible apply Pk.t)); exact rfl)))
              (repeat (first | ((with_reducible apply t_run); exact rfl) | ((with_reducible apply t_p); exact rfl; exact rfl) | ((with_reducible apply t_gr); exact rfl) | ((with_reducible apply t_ge); exact rfl) | ((with_reducible apply t_ld); exact rfl; exact rfl; (repeat (first | with_reducible exact Pk.h | with_reducible apply Pk.t)); exact rfl) | ((with_reducible apply t_st); exact rfl; exact rfl; exact rfl; (repeat (first | with_reducible exact Pk.h | with_reducible apply Pk.t)); exact rfl; exact rfl; exact Nat.le_of_ble_eq_true rfl; exact rfl; (repeat (first | apply rk_nil | (apply rk_skip; exact rfl) | (apply rk_ld; exact rfl; (repeat (first | with_reducible exact Pk.h | with_reducible apply Pk.t)); exact rfl)))) | ((with_reducible apply t_nx F5.k); exact rfl; exact rfl) | with_reducible apply m_seq | (with_reducible apply m_reg mix) | with_reducible apply m_block | ((with_reducible apply m_ct); exact rfl) | ((with_reducible apply m_cf); exact rfl) | ((with_reducible apply m_skn); exact rfl) | ((with_reducible apply m_exn); exact rfl)))
              refine t_meet rfl (cutL L ⟨ac, an⟩, mn) ⟨good_mono (good_cut hG _) (by omega), mine_cut hM hno, geS_refl mn⟩ [36, 34, 35, 0, 5, 6, 7] rfl (by repeat (first | apply Sx.nil | apply Pk.h | apply Sx.cons | apply Pk.t))
            · refine m_meet rfl (L, mn) ⟨good_mono hG (by omega), hM, geS_refl mn⟩ [36, 34, 35, 0, 5, 6, 7] rfl (by repeat (first | apply Sx.nil | apply Pk.h | apply Sx.cons | apply Pk.t))
      clear hCut hLay hRai hM hG hLl
      rintro ⟨L', mn'⟩ ⟨hG', hM', hge⟩
      dsimp only at hG' hM' hge ⊢
      refine en_fact (x := TabL t L') tabL_srt (by repeat (first | with_reducible exact Pk.h | with_reducible apply Pk.t)) fun hsrt => ?_
      (repeat (first | ((with_reducible apply t_run); exact rfl) | ((with_reducible apply t_p); exact rfl; exact rfl) | ((with_reducible apply t_gr); exact rfl) | ((with_reducible apply t_ge); exact rfl) | ((with_reducible apply t_ld); exact rfl; exact rfl; (repeat (first | with_reducible exact Pk.h | with_reducible apply Pk.t)); exact rfl) | ((with_reducible apply t_st); exact rfl; exact rfl; exact rfl; (repeat (first | with_reducible exact Pk.h | with_reducible apply Pk.t)); exact rfl; exact rfl; exact Nat.le_of_ble_eq_true rfl; exact rfl; (repeat (first | apply rk_nil | (apply rk_skip; exact rfl) | (apply rk_ld; exact rfl; (repeat (first | with_reducible exact Pk.h | with_reducible apply Pk.t)); exact rfl)))) | ((with_reducible apply t_nx F5.k); exact rfl; exact rfl) | with_reducible apply m_seq | (with_reducible apply m_reg mix) | with_reducible apply m_block | ((with_reducible apply m_ct); exact rfl) | ((with_reducible apply m_cf); exact rfl) | ((with_reducible apply m_skn); exact rfl) | ((with_reducible apply m_exn); exact rfl)))
      refine m_cutb (i := 3) (α := Unit) (fun _ => [(36, .int .i64 (i : Nat)), (34, .slice (some ⟨b, o, none⟩) acts.length sc), (35, .int .i64 (acts.length : Nat)), (0, .slice wa ws.length wc), (5, .pointer (some ⟨t, 0, none⟩)), (6, .pointer (some ⟨b6, 0, none⟩)), (7, .pointer (some ⟨b7, 0, none⟩))]) (fun _ => [TabL t L', Old W, Cl b6 25 [.int .u32 77, .int .u32 7], Cl b7 28 mn'.cells, X]) (fun _ => True) rfl rfl ?_ ?_
      · refine m_lp (α := Nat) (fun j => (84, .int .i64 (j : Nat)) :: (82, .slice wa ws.length wc) :: (83, .int .i64 (ws.length : Nat)) :: [(36, .int .i64 (i : Nat)), (34, .slice (some ⟨b, o, none⟩) acts.length sc), (35, .int .i64 (acts.length : Nat)), (0, .slice wa ws.length wc), (5, .pointer (some ⟨t, 0, none⟩)), (6, .pointer (some ⟨b6, 0, none⟩)), (7, .pointer (some ⟨b7, 0, none⟩))])
          (fun j => [TabL t L', Old W, Cl b6 25 [.int .u32 77, .int .u32 7], Cl b7 28 (if ws.length ≤ j then mn' else mn).cells, X]) (fun j => j ≤ ws.length) (fun j => ws.length - j) ?_ 0 (by simp) [84, 82, 83, 36, 34, 35, 0, 5, 6, 7] rfl (by rw [if_neg (by omega)]; exact (by repeat (first | apply Sx.nil | apply Pk.h | apply Sx.cons | apply Pk.t)))
        intro j hj
        (repeat (first | ((with_reducible apply t_run); exact rfl) | ((with_reducible apply t_p); exact rfl; exact rfl) | ((with_reducible apply t_gr); exact rfl) | ((with_reducible apply t_ge); exact rfl) | ((with_reducible apply t_ld); exact rfl; exact rfl; (repeat (first | with_reducible exact Pk.h | with_reducible apply Pk.t)); exact rfl) | ((with_reducible apply t_st); exact rfl; exact rfl; exact rfl; (repeat (first | with_reducible exact Pk.h | with_reducible apply Pk.t)); exact rfl; exact rfl; exact Nat.le_of_ble_eq_true rfl; exact rfl; (repeat (first | apply rk_nil | (apply rk_skip; exact rfl) | (apply rk_ld; exact rfl; (repeat (first | with_reducible exact Pk.h | with_reducible apply Pk.t)); exact rfl)))) | ((with_reducible apply t_nx F5.k); exact rfl; exact rfl) | with_reducible apply m_seq | (with_reducible apply m_reg mix) | with_reducible apply m_block | ((with_reducible apply m_ct); exact rfl) | ((with_reducible apply m_cf); exact rfl) | ((with_reducible apply m_skn); exact rfl) | ((with_reducible apply m_exn); exact rfl)))
        refine m_cond rfl (fun p1 => ?_) (fun p1 => ?_)
        · have hj' : j < ws.length := by have := of_decide_eq_true p1; omega
          obtain ⟨bb, bo, rfl, _⟩ := hwv.ptr (by rw [hwcl]; omega)
          rw [if_neg (by omega)]
          have hof := Of_L t L' ws[j].key
          rw [mine_of hM' hsrt (List.getElem_mem hj')] at hof
          have hdst : ws[j] = ws[ws.length - 1]'(by omega) → j + 1 = ws.length := by
            intro he
            rcases Nat.lt_or_ge j (ws.length - 1) with h | h
            · have := List.pairwise_iff_getElem.1 hdist j (ws.length - 1) hj' (by omega) h
              exact absurd (congrArg Wr.key he) this
            · omega
          have hdst2 : j + 1 = ws.length → ws[j] = ws[ws.length - 1]'(by omega) := by
            intro he
            congr 1
            omega
          have hw1 : IntKind.i64.wrap ((ws.length : Int) - 1) = ((ws.length - 1 : Nat) : Int) := by
            simp only [IntKind.wrap, IntKind.bits, IntKind.signed]; simp; omega
          have hla := hwv.at (by decide) (i := ws.length - 1) (x := (ws[ws.length - 1]'(by omega)).cells) (by rw [wcs, List.getElem?_map, List.getElem?_eq_getElem (by omega)]; rfl)
          (repeat (first | ((with_reducible apply t_run); exact rfl) | ((with_reducible apply t_p); exact rfl; exact rfl) | ((with_reducible apply t_gr); exact rfl) | ((with_reducible apply t_ge); exact rfl) | ((with_reducible apply t_ld); exact rfl; exact rfl; (repeat (first | with_reducible exact Pk.h | with_reducible apply Pk.t)); exact rfl) | ((with_reducible apply t_st); exact rfl; exact rfl; exact rfl; (repeat (first | with_reducible exact Pk.h | with_reducible apply Pk.t)); exact rfl; exact rfl; exact Nat.le_of_ble_eq_true rfl; exact rfl; (repeat (first | apply rk_nil | (apply rk_skip; exact rfl) | (apply rk_ld; exact rfl; (repeat (first | with_reducible exact Pk.h | with_reducible apply Pk.t)); exact rfl)))) | ((with_reducible apply t_nx F5.k); exact rfl; exact rfl) | with_reducible apply m_seq | (with_reducible apply m_reg mix) | with_reducible apply m_block | ((with_reducible apply m_ct); exact rfl) | ((with_reducible apply m_cf); exact rfl) | ((with_reducible apply m_skn); exact rfl) | ((with_reducible apply m_exn); exact rfl)))
          refine t_ia j rfl rfl rfl hj' ?_
          refine t_la rfl rfl (R := Old W) (by repeat (first | with_reducible exact Pk.h | with_reducible apply Pk.t)) (hwv.at (by decide) (i := j) (x := ws[j].cells) (by simp [wcs, hj'])) ?_
          generalize ws[j] = w at hof hdst hdst2 ⊢
          generalize ws[ws.length - 1]'(by omega) = wl at hla hdst hdst2
          obtain ⟨wk, wvv, wd⟩ := w
          obtain ⟨lk, lv, ld⟩ := wl
          obtain ⟨mp, ml⟩ := mn
          obtain ⟨mp', ml'⟩ := mn'
          simp only [Wr.cells, Sm.cells] at hla ⊢
          refine t_al rfl fun b11 => ⟨(by (repeat (first | apply rk_nil | (apply rk_skip; exact rfl) | (apply rk_ld; exact rfl; (repeat (first | with_reducible exact Pk.h | with_reducible apply Pk.t)); exact rfl)))), ?_⟩
          (repeat (first | ((with_reducible apply t_run); exact rfl) | ((with_reducible apply t_p); exact rfl; exact rfl) | ((with_reducible apply t_gr); exact rfl) | ((with_reducible apply t_ge); exact rfl) | ((with_reducible apply t_ld); exact rfl; exact rfl; (repeat (first | with_reducible exact Pk.h | with_reducible apply Pk.t)); exact rfl) | ((with_reducible apply t_st); exact rfl; exact rfl; exact rfl; (repeat (first | with_reducible exact Pk.h | with_reducible apply Pk.t)); exact rfl; exact rfl; exact Nat.le_of_ble_eq_true rfl; exact rfl; (repeat (first | apply rk_nil | (apply rk_skip; exact rfl) | (apply rk_ld; exact rfl; (repeat (first | with_reducible exact Pk.h | with_reducible apply Pk.t)); exact rfl)))) | ((with_reducible apply t_nx F5.k); exact rfl; exact rfl) | with_reducible apply m_seq | (with_reducible apply m_reg mix) | with_reducible apply m_block | ((with_reducible apply m_ct); exact rfl) | ((with_reducible apply m_cf); exact rfl) | ((with_reducible apply m_skn); exact rfl) | ((with_reducible apply m_exn); exact rfl)))
          refine t_cl rfl rfl (hof) (by repeat (first | apply Sx.nil | apply Pk.h | apply Sx.cons | apply Pk.t)) ?_
          rintro _ _ ⟨rfl, rfl⟩
          refine ⟨?_, ?_⟩ <;> (try dsimp only [List.cons_append, List.nil_append])
          · (repeat (first | apply rk_nil | (apply rk_skip; exact rfl) | (apply rk_ld; exact rfl; (repeat (first | with_reducible exact Pk.h | with_reducible apply Pk.t)); exact rfl)))
          (repeat (first | ((with_reducible apply t_run); exact rfl) | ((with_reducible apply t_p); exact rfl; exact rfl) | ((with_reducible apply t_gr); exact rfl) | ((with_reducible apply t_ge); exact rfl) | ((with_reducible apply t_ld); exact rfl; exact rfl; (repeat (first | with_reducible exact Pk.h | with_reducible apply Pk.t)); exact rfl) | ((with_reducible apply t_st); exact rfl; exact rfl; exact rfl; (repeat (first | with_reducible exact Pk.h | with_reducible apply Pk.t)); exact rfl; exact rfl; exact Nat.le_of_ble_eq_true rfl; exact rfl; (repeat (first | apply rk_nil | (apply rk_skip; exact rfl) | (apply rk_ld; exact rfl; (repeat (first | with_reducible exact Pk.h | with_reducible apply Pk.t)); exact rfl)))) | ((with_reducible apply t_nx F5.k); exact rfl; exact rfl) | with_reducible apply m_seq | (with_reducible apply m_reg mix) | with_reducible apply m_block | ((with_reducible apply m_ct); exact rfl) | ((with_reducible apply m_cf); exact rfl) | ((with_reducible apply m_skn); exact rfl) | ((with_reducible apply m_exn); exact rfl)))
          refine t_al rfl fun b12 => ⟨(by (repeat (first | apply rk_nil | (apply rk_skip; exact rfl) | (apply rk_ld; exact rfl; (repeat (first | with_reducible exact Pk.h | with_reducible apply Pk.t)); exact rfl)))), ?_⟩
          (repeat (first | ((with_reducible apply t_run); exact rfl) | ((with_reducible apply t_p); exact rfl; exact rfl) | ((with_reducible apply t_gr); exact rfl) | ((with_reducible apply t_ge); exact rfl) | ((with_reducible apply t_ld); exact rfl; exact rfl; (repeat (first | with_reducible exact Pk.h | with_reducible apply Pk.t)); exact rfl) | ((with_reducible apply t_st); exact rfl; exact rfl; exact rfl; (repeat (first | with_reducible exact Pk.h | with_reducible apply Pk.t)); exact rfl; exact rfl; exact Nat.le_of_ble_eq_true rfl; exact rfl; (repeat (first | apply rk_nil | (apply rk_skip; exact rfl) | (apply rk_ld; exact rfl; (repeat (first | with_reducible exact Pk.h | with_reducible apply Pk.t)); exact rfl)))) | ((with_reducible apply t_nx F5.k); exact rfl; exact rfl) | with_reducible apply m_seq | (with_reducible apply m_reg mix) | with_reducible apply m_block | ((with_reducible apply m_ct); exact rfl) | ((with_reducible apply m_cf); exact rfl) | ((with_reducible apply m_skn); exact rfl) | ((with_reducible apply m_exn); exact rfl)))
          refine t_spl 109 rfl (fun r1 => ?_) (fun r1 => ?_)
          · exfalso
            simp [mkI] at r1
          (repeat (first | ((with_reducible apply t_run); exact rfl) | ((with_reducible apply t_p); exact rfl; exact rfl) | ((with_reducible apply t_gr); exact rfl) | ((with_reducible apply t_ge); exact rfl) | ((with_reducible apply t_ld); exact rfl; exact rfl; (repeat (first | with_reducible exact Pk.h | with_reducible apply Pk.t)); exact rfl) | ((with_reducible apply t_st); exact rfl; exact rfl; exact rfl; (repeat (first | with_reducible exact Pk.h | with_reducible apply Pk.t)); exact rfl; exact rfl; exact Nat.le_of_ble_eq_true rfl; exact rfl; (repeat (first | apply rk_nil | (apply rk_skip; exact rfl) | (apply rk_ld; exact rfl; (repeat (first | with_reducible exact Pk.h | with_reducible apply Pk.t)); exact rfl)))) | ((with_reducible apply t_nx F5.k); exact rfl; exact rfl) | with_reducible apply m_seq | (with_reducible apply m_reg mix) | with_reducible apply m_block | ((with_reducible apply m_ct); exact rfl) | ((with_reducible apply m_cf); exact rfl) | ((with_reducible apply m_skn); exact rfl) | ((with_reducible apply m_exn); exact rfl)))
          refine t_spl 128 rfl (fun r2 => ?_) (fun r2 => ?_)
          · exfalso
            exact hge.1 (of_decide_eq_true r2)
          (repeat (first | ((with_reducible apply t_run); exact rfl) | ((with_reducible apply t_p); exact rfl; exact rfl) | ((with_reducible apply t_gr); exact rfl) | ((with_reducible apply t_ge); exact rfl) | ((with_reducible apply t_ld); exact rfl; exact rfl; (repeat (first | with_reducible exact Pk.h | with_reducible apply Pk.t)); exact rfl) | ((with_reducible apply t_st); exact rfl; exact rfl; exact rfl; (repeat (first | with_reducible exact Pk.h | with_reducible apply Pk.t)); exact rfl; exact rfl; exact Nat.le_of_ble_eq_true rfl; exact rfl; (repeat (first | apply rk_nil | (apply rk_skip; exact rfl) | (apply rk_ld; exact rfl; (repeat (first | with_reducible exact Pk.h | with_reducible apply Pk.t)); exact rfl)))) | ((with_reducible apply t_nx F5.k); exact rfl; exact rfl) | with_reducible apply m_seq | (with_reducible apply m_reg mix) | with_reducible apply m_block | ((with_reducible apply m_ct); exact rfl) | ((with_reducible apply m_cf); exact rfl) | ((with_reducible apply m_skn); exact rfl) | ((with_reducible apply m_exn); exact rfl)))
          refine t_spl 135 rfl (fun r3 => ?_) (fun r3 => ?_)
          · (repeat (first | ((with_reducible apply t_run); exact rfl) | ((with_reducible apply t_p); exact rfl; exact rfl) | ((with_reducible apply t_gr); exact rfl) | ((with_reducible apply t_ge); exact rfl) | ((with_reducible apply t_ld); exact rfl; exact rfl; (repeat (first | with_reducible exact Pk.h | with_reducible apply Pk.t)); exact rfl) | ((with_reducible apply t_st); exact rfl; exact rfl; exact rfl; (repeat (first | with_reducible exact Pk.h | with_reducible apply Pk.t)); exact rfl; exact rfl; exact Nat.le_of_ble_eq_true rfl; exact rfl; (repeat (first | apply rk_nil | (apply rk_skip; exact rfl) | (apply rk_ld; exact rfl; (repeat (first | with_reducible exact Pk.h | with_reducible apply Pk.t)); exact rfl)))) | ((with_reducible apply t_nx F5.k); exact rfl; exact rfl) | with_reducible apply m_seq | (with_reducible apply m_reg mix) | with_reducible apply m_block | ((with_reducible apply m_ct); exact rfl) | ((with_reducible apply m_cf); exact rfl) | ((with_reducible apply m_skn); exact rfl) | ((with_reducible apply m_exn); exact rfl)))
            refine m_cond rfl (fun r4 => ?_) (fun r4 => ?_)
            · exfalso
              exact hge.2 ⟨of_decide_eq_true r3, of_decide_eq_true r4⟩
            (repeat (first | ((with_reducible apply t_run); exact rfl) | ((with_reducible apply t_p); exact rfl; exact rfl) | ((with_reducible apply t_gr); exact rfl) | ((with_reducible apply t_ge); exact rfl) | ((with_reducible apply t_ld); exact rfl; exact rfl; (repeat (first | with_reducible exact Pk.h | with_reducible apply Pk.t)); exact rfl) | ((with_reducible apply t_st); exact rfl; exact rfl; exact rfl; (repeat (first | with_reducible exact Pk.h | with_reducible apply Pk.t)); exact rfl; exact rfl; exact Nat.le_of_ble_eq_true rfl; exact rfl; (repeat (first | apply rk_nil | (apply rk_skip; exact rfl) | (apply rk_ld; exact rfl; (repeat (first | with_reducible exact Pk.h | with_reducible apply Pk.t)); exact rfl)))) | ((with_reducible apply t_nx F5.k); exact rfl; exact rfl) | with_reducible apply m_seq | (with_reducible apply m_reg mix) | with_reducible apply m_block | ((with_reducible apply m_ct); exact rfl) | ((with_reducible apply m_cf); exact rfl) | ((with_reducible apply m_skn); exact rfl) | ((with_reducible apply m_exn); exact rfl)))
            rw [hw1]
            refine t_ia (ws.length - 1) rfl rfl rfl (by omega) ?_
            refine t_la rfl rfl (R := Old W) (by repeat (first | with_reducible exact Pk.h | with_reducible apply Pk.t)) hla ?_
            (repeat (first | ((with_reducible apply t_run); exact rfl) | ((with_reducible apply t_p); exact rfl; exact rfl) | ((with_reducible apply t_gr); exact rfl) | ((with_reducible apply t_ge); exact rfl) | ((with_reducible apply t_ld); exact rfl; exact rfl; (repeat (first | with_reducible exact Pk.h | with_reducible apply Pk.t)); exact rfl) | ((with_reducible apply t_st); exact rfl; exact rfl; exact rfl; (repeat (first | with_reducible exact Pk.h | with_reducible apply Pk.t)); exact rfl; exact rfl; exact Nat.le_of_ble_eq_true rfl; exact rfl; (repeat (first | apply rk_nil | (apply rk_skip; exact rfl) | (apply rk_ld; exact rfl; (repeat (first | with_reducible exact Pk.h | with_reducible apply Pk.t)); exact rfl)))) | ((with_reducible apply t_nx F5.k); exact rfl; exact rfl) | with_reducible apply m_seq | (with_reducible apply m_reg mix) | with_reducible apply m_block | ((with_reducible apply m_ct); exact rfl) | ((with_reducible apply m_cf); exact rfl) | ((with_reducible apply m_skn); exact rfl) | ((with_reducible apply m_exn); exact rfl)))
            refine m_cond rfl (fun r5 => ?_) (fun r5 => ?_)
            · have hj2 : j + 1 = ws.length := hdst (by simp at r5; simp [r5])
              (repeat (first | ((with_reducible apply t_run); exact rfl) | ((with_reducible apply t_p); exact rfl; exact rfl) | ((with_reducible apply t_gr); exact rfl) | ((with_reducible apply t_ge); exact rfl) | ((with_reducible apply t_ld); exact rfl; exact rfl; (repeat (first | with_reducible exact Pk.h | with_reducible apply Pk.t)); exact rfl) | ((with_reducible apply t_st); exact rfl; exact rfl; exact rfl; (repeat (first | with_reducible exact Pk.h | with_reducible apply Pk.t)); exact rfl; exact rfl; exact Nat.le_of_ble_eq_true rfl; exact rfl; (repeat (first | apply rk_nil | (apply rk_skip; exact rfl) | (apply rk_ld; exact rfl; (repeat (first | with_reducible exact Pk.h | with_reducible apply Pk.t)); exact rfl)))) | ((with_reducible apply t_nx F5.k); exact rfl; exact rfl) | with_reducible apply m_seq | (with_reducible apply m_reg mix) | with_reducible apply m_block | ((with_reducible apply m_ct); exact rfl) | ((with_reducible apply m_cf); exact rfl) | ((with_reducible apply m_skn); exact rfl) | ((with_reducible apply m_exn); exact rfl)))
              refine t_meet rfl (j + 1) ⟨by omega, by omega⟩ [84, 82, 83, 36, 34, 35, 0, 5, 6, 7] ?_ (by rw [if_pos (by omega)]; exact (by repeat (first | apply Sx.nil | apply Pk.h | apply Sx.cons | apply Pk.t)))
              rw [wrap_nat (by omega)]
              rfl
            · have hj2 : j + 1 ≠ ws.length := by
                intro h
                have := hdst2 h
                rw [Wr.mk.injEq] at this
                simp [this] at r5
              (repeat (first | ((with_reducible apply t_run); exact rfl) | ((with_reducible apply t_p); exact rfl; exact rfl) | ((with_reducible apply t_gr); exact rfl) | ((with_reducible apply t_ge); exact rfl) | ((with_reducible apply t_ld); exact rfl; exact rfl; (repeat (first | with_reducible exact Pk.h | with_reducible apply Pk.t)); exact rfl) | ((with_reducible apply t_st); exact rfl; exact rfl; exact rfl; (repeat (first | with_reducible exact Pk.h | with_reducible apply Pk.t)); exact rfl; exact rfl; exact Nat.le_of_ble_eq_true rfl; exact rfl; (repeat (first | apply rk_nil | (apply rk_skip; exact rfl) | (apply rk_ld; exact rfl; (repeat (first | with_reducible exact Pk.h | with_reducible apply Pk.t)); exact rfl)))) | ((with_reducible apply t_nx F5.k); exact rfl; exact rfl) | with_reducible apply m_seq | (with_reducible apply m_reg mix) | with_reducible apply m_block | ((with_reducible apply m_ct); exact rfl) | ((with_reducible apply m_cf); exact rfl) | ((with_reducible apply m_skn); exact rfl) | ((with_reducible apply m_exn); exact rfl)))
              refine t_meet rfl (j + 1) ⟨by omega, by omega⟩ [84, 82, 83, 36, 34, 35, 0, 5, 6, 7] ?_ (by rw [if_neg (by omega)]; exact (by repeat (first | apply Sx.nil | apply Pk.h | apply Sx.cons | apply Pk.t)))
              rw [wrap_nat (by omega)]
              rfl
          · (repeat (first | ((with_reducible apply t_run); exact rfl) | ((with_reducible apply t_p); exact rfl; exact rfl) | ((with_reducible apply t_gr); exact rfl) | ((with_reducible apply t_ge); exact rfl) | ((with_reducible apply t_ld); exact rfl; exact rfl; (repeat (first | with_reducible exact Pk.h | with_reducible apply Pk.t)); exact rfl) | ((with_reducible apply t_st); exact rfl; exact rfl; exact rfl; (repeat (first | with_reducible exact Pk.h | with_reducible apply Pk.t)); exact rfl; exact rfl; exact Nat.le_of_ble_eq_true rfl; exact rfl; (repeat (first | apply rk_nil | (apply rk_skip; exact rfl) | (apply rk_ld; exact rfl; (repeat (first | with_reducible exact Pk.h | with_reducible apply Pk.t)); exact rfl)))) | ((with_reducible apply t_nx F5.k); exact rfl; exact rfl) | with_reducible apply m_seq | (with_reducible apply m_reg mix) | with_reducible apply m_block | ((with_reducible apply m_ct); exact rfl) | ((with_reducible apply m_cf); exact rfl) | ((with_reducible apply m_skn); exact rfl) | ((with_reducible apply m_exn); exact rfl)))
            rw [hw1]
            refine t_ia (ws.length - 1) rfl rfl rfl (by omega) ?_
            refine t_la rfl rfl (R := Old W) (by repeat (first | with_reducible exact Pk.h | with_reducible apply Pk.t)) hla ?_
            (repeat (first | ((with_reducible apply t_run); exact rfl) | ((with_reducible apply t_p); exact rfl; exact rfl) | ((with_reducible apply t_gr); exact rfl) | ((with_reducible apply t_ge); exact rfl) | ((with_reducible apply t_ld); exact rfl; exact rfl; (repeat (first | with_reducible exact Pk.h | with_reducible apply Pk.t)); exact rfl) | ((with_reducible apply t_st); exact rfl; exact rfl; exact rfl; (repeat (first | with_reducible exact Pk.h | with_reducible apply Pk.t)); exact rfl; exact rfl; exact Nat.le_of_ble_eq_true rfl; exact rfl; (repeat (first | apply rk_nil | (apply rk_skip; exact rfl) | (apply rk_ld; exact rfl; (repeat (first | with_reducible exact Pk.h | with_reducible apply Pk.t)); exact rfl)))) | ((with_reducible apply t_nx F5.k); exact rfl; exact rfl) | with_reducible apply m_seq | (with_reducible apply m_reg mix) | with_reducible apply m_block | ((with_reducible apply m_ct); exact rfl) | ((with_reducible apply m_cf); exact rfl) | ((with_reducible apply m_skn); exact rfl) | ((with_reducible apply m_exn); exact rfl)))
            refine m_cond rfl (fun r5 => ?_) (fun r5 => ?_)
            · have hj2 : j + 1 = ws.length := hdst (by simp at r5; simp [r5])
              (repeat (first | ((with_reducible apply t_run); exact rfl) | ((with_reducible apply t_p); exact rfl; exact rfl) | ((with_reducible apply t_gr); exact rfl) | ((with_reducible apply t_ge); exact rfl) | ((with_reducible apply t_ld); exact rfl; exact rfl; (repeat (first | with_reducible exact Pk.h | with_reducible apply Pk.t)); exact rfl) | ((with_reducible apply t_st); exact rfl; exact rfl; exact rfl; (repeat (first | with_reducible exact Pk.h | with_reducible apply Pk.t)); exact rfl; exact rfl; exact Nat.le_of_ble_eq_true rfl; exact rfl; (repeat (first | apply rk_nil | (apply rk_skip; exact rfl) | (apply rk_ld; exact rfl; (repeat (first | with_reducible exact Pk.h | with_reducible apply Pk.t)); exact rfl)))) | ((with_reducible apply t_nx F5.k); exact rfl; exact rfl) | with_reducible apply m_seq | (with_reducible apply m_reg mix) | with_reducible apply m_block | ((with_reducible apply m_ct); exact rfl) | ((with_reducible apply m_cf); exact rfl) | ((with_reducible apply m_skn); exact rfl) | ((with_reducible apply m_exn); exact rfl)))
              refine t_meet rfl (j + 1) ⟨by omega, by omega⟩ [84, 82, 83, 36, 34, 35, 0, 5, 6, 7] ?_ (by rw [if_pos (by omega)]; exact (by repeat (first | apply Sx.nil | apply Pk.h | apply Sx.cons | apply Pk.t)))
              rw [wrap_nat (by omega)]
              rfl
            · have hj2 : j + 1 ≠ ws.length := by
                intro h
                have := hdst2 h
                rw [Wr.mk.injEq] at this
                simp [this] at r5
              (repeat (first | ((with_reducible apply t_run); exact rfl) | ((with_reducible apply t_p); exact rfl; exact rfl) | ((with_reducible apply t_gr); exact rfl) | ((with_reducible apply t_ge); exact rfl) | ((with_reducible apply t_ld); exact rfl; exact rfl; (repeat (first | with_reducible exact Pk.h | with_reducible apply Pk.t)); exact rfl) | ((with_reducible apply t_st); exact rfl; exact rfl; exact rfl; (repeat (first | with_reducible exact Pk.h | with_reducible apply Pk.t)); exact rfl; exact rfl; exact Nat.le_of_ble_eq_true rfl; exact rfl; (repeat (first | apply rk_nil | (apply rk_skip; exact rfl) | (apply rk_ld; exact rfl; (repeat (first | with_reducible exact Pk.h | with_reducible apply Pk.t)); exact rfl)))) | ((with_reducible apply t_nx F5.k); exact rfl; exact rfl) | with_reducible apply m_seq | (with_reducible apply m_reg mix) | with_reducible apply m_block | ((with_reducible apply m_ct); exact rfl) | ((with_reducible apply m_cf); exact rfl) | ((with_reducible apply m_skn); exact rfl) | ((with_reducible apply m_exn); exact rfl)))
              refine t_meet rfl (j + 1) ⟨by omega, by omega⟩ [84, 82, 83, 36, 34, 35, 0, 5, 6, 7] ?_ (by rw [if_neg (by omega)]; exact (by repeat (first | apply Sx.nil | apply Pk.h | apply Sx.cons | apply Pk.t)))
              rw [wrap_nat (by omega)]
              rfl
        · have hj' : j = ws.length := by have := of_decide_eq_false p1; omega
          refine m_emeet (α := Unit) rfl () (by trivial) [36, 34, 35, 0, 5, 6, 7] rfl (by rw [if_pos (by omega)]; exact (by repeat (first | apply Sx.nil | apply Pk.h | apply Sx.cons | apply Pk.t)))
      rintro _ _
      (repeat (first | ((with_reducible apply t_run); exact rfl) | ((with_reducible apply t_p); exact rfl; exact rfl) | ((with_reducible apply t_gr); exact rfl) | ((with_reducible apply t_ge); exact rfl) | ((with_reducible apply t_ld); exact rfl; exact rfl; (repeat (first | with_reducible exact Pk.h | with_reducible apply Pk.t)); exact rfl) | ((with_reducible apply t_st); exact rfl; exact rfl; exact rfl; (repeat (first | with_reducible exact Pk.h | with_reducible apply Pk.t)); exact rfl; exact rfl; exact Nat.le_of_ble_eq_true rfl; exact rfl; (repeat (first | apply rk_nil | (apply rk_skip; exact rfl) | (apply rk_ld; exact rfl; (repeat (first | with_reducible exact Pk.h | with_reducible apply Pk.t)); exact rfl)))) | ((with_reducible apply t_nx F5.k); exact rfl; exact rfl) | with_reducible apply m_seq | (with_reducible apply m_reg mix) | with_reducible apply m_block | ((with_reducible apply m_ct); exact rfl) | ((with_reducible apply m_cf); exact rfl) | ((with_reducible apply m_skn); exact rfl) | ((with_reducible apply m_exn); exact rfl)))
      refine t_meet rfl (i + 1, L', mn') ⟨⟨hi', by dsimp only; omega, hG', hM'⟩, by dsimp only; omega⟩ [36, 34, 35, 0, 5, 6, 7] ?_ (by repeat (first | apply Sx.nil | apply Pk.h | apply Sx.cons | apply Pk.t))
      dsimp only
      rw [wrap_nat (by omega)]
      rfl
    · refine m_emeet (α := List In × Sm) rfl (L, mn) ⟨hM, good_mono hG (by omega)⟩ [0, 5, 6] rfl (by repeat (first | apply Sx.nil | apply Pk.h | apply Sx.cons | apply Pk.t))
  rintro ⟨L, mn⟩ ⟨hM, hG⟩
  dsimp only at hM hG ⊢
  refine en_fact (x := TabL t L) tabL_srt (by repeat (first | with_reducible exact Pk.h | with_reducible apply Pk.t)) fun hsrt => ?_
  have hml := hM.len
  have hcb := cutb_len L meT
  (repeat (first | ((with_reducible apply t_run); exact rfl) | ((with_reducible apply t_p); exact rfl; exact rfl) | ((with_reducible apply t_gr); exact rfl) | ((with_reducible apply t_ge); exact rfl) | ((with_reducible apply t_ld); exact rfl; exact rfl; (repeat (first | with_reducible exact Pk.h | with_reducible apply Pk.t)); exact rfl) | ((with_reducible apply t_st); exact rfl; exact rfl; exact rfl; (repeat (first | with_reducible exact Pk.h | with_reducible apply Pk.t)); exact rfl; exact rfl; exact Nat.le_of_ble_eq_true rfl; exact rfl; (repeat (first | apply rk_nil | (apply rk_skip; exact rfl) | (apply rk_ld; exact rfl; (repeat (first | with_reducible exact Pk.h | with_reducible apply Pk.t)); exact rfl)))) | ((with_reducible apply t_nx F5.k); exact rfl; exact rfl) | with_reducible apply m_seq | (with_reducible apply m_reg mix) | with_reducible apply m_block | ((with_reducible apply m_ct); exact rfl) | ((with_reducible apply m_cf); exact rfl) | ((with_reducible apply m_skn); exact rfl) | ((with_reducible apply m_exn); exact rfl)))
  refine t_cl rfl rfl (Cut_L t L meT ⟨⟨by decide, by decide⟩, ⟨by decide, by decide⟩⟩) (by repeat (first | apply Sx.nil | apply Pk.h | apply Sx.cons | apply Pk.t)) ?_
  rintro _ _ rfl
  refine ⟨?_, ?_⟩ <;> (try dsimp only [List.cons_append, List.nil_append])
  · (repeat (first | apply rk_nil | (apply rk_skip; exact rfl) | (apply rk_ld; exact rfl; (repeat (first | with_reducible exact Pk.h | with_reducible apply Pk.t)); exact rfl)))
  refine en_ows (by repeat (first | with_reducible exact Pk.h | with_reducible apply Pk.t)) fun la lc he => ?_
  subst he
  (repeat (first | ((with_reducible apply t_run); exact rfl) | ((with_reducible apply t_p); exact rfl; exact rfl) | ((with_reducible apply t_gr); exact rfl) | ((with_reducible apply t_ge); exact rfl) | ((with_reducible apply t_ld); exact rfl; exact rfl; (repeat (first | with_reducible exact Pk.h | with_reducible apply Pk.t)); exact rfl) | ((with_reducible apply t_st); exact rfl; exact rfl; exact rfl; (repeat (first | with_reducible exact Pk.h | with_reducible apply Pk.t)); exact rfl; exact rfl; exact Nat.le_of_ble_eq_true rfl; exact rfl; (repeat (first | apply rk_nil | (apply rk_skip; exact rfl) | (apply rk_ld; exact rfl; (repeat (first | with_reducible exact Pk.h | with_reducible apply Pk.t)); exact rfl)))) | ((with_reducible apply t_nx F5.k); exact rfl; exact rfl) | with_reducible apply m_seq | (with_reducible apply m_reg mix) | with_reducible apply m_block | ((with_reducible apply m_ct); exact rfl) | ((with_reducible apply m_cf); exact rfl) | ((with_reducible apply m_skn); exact rfl) | ((with_reducible apply m_exn); exact rfl)))
  refine t_spl 164 rfl (fun r1 => ?_) (fun r1 => ?_)
  · exfalso
    rw [hml] at r1
    simp at r1
  (repeat (first | ((with_reducible apply t_run); exact rfl) | ((with_reducible apply t_p); exact rfl; exact rfl) | ((with_reducible apply t_gr); exact rfl) | ((with_reducible apply t_ge); exact rfl) | ((with_reducible apply t_ld); exact rfl; exact rfl; (repeat (first | with_reducible exact Pk.h | with_reducible apply Pk.t)); exact rfl) | ((with_reducible apply t_st); exact rfl; exact rfl; exact rfl; (repeat (first | with_reducible exact Pk.h | with_reducible apply Pk.t)); exact rfl; exact rfl; exact Nat.le_of_ble_eq_true rfl; exact rfl; (repeat (first | apply rk_nil | (apply rk_skip; exact rfl) | (apply rk_ld; exact rfl; (repeat (first | with_reducible exact Pk.h | with_reducible apply Pk.t)); exact rfl)))) | ((with_reducible apply t_nx F5.k); exact rfl; exact rfl) | with_reducible apply m_seq | (with_reducible apply m_reg mix) | with_reducible apply m_block | ((with_reducible apply m_ct); exact rfl) | ((with_reducible apply m_cf); exact rfl) | ((with_reducible apply m_skn); exact rfl) | ((with_reducible apply m_exn); exact rfl)))
  have hBy := By_L t (cutL L meT) meT ⟨⟨by decide, by decide⟩, ⟨by decide, by decide⟩⟩
  rw [hcb] at hBy
  refine t_cl rfl rfl (hBy) (by repeat (first | apply Sx.nil | apply Pk.h | apply Sx.cons | apply Pk.t)) ?_
  rintro _ _ rfl
  refine ⟨?_, ?_⟩ <;> (try dsimp only [List.cons_append, List.nil_append])
  · (repeat (first | apply rk_nil | (apply rk_skip; exact rfl) | (apply rk_ld; exact rfl; (repeat (first | with_reducible exact Pk.h | with_reducible apply Pk.t)); exact rfl)))
  refine en_ows (by repeat (first | with_reducible exact Pk.h | with_reducible apply Pk.t)) fun la2 lc2 he => ?_
  subst he
  (repeat (first | ((with_reducible apply t_run); exact rfl) | ((with_reducible apply t_p); exact rfl; exact rfl) | ((with_reducible apply t_gr); exact rfl) | ((with_reducible apply t_ge); exact rfl) | ((with_reducible apply t_ld); exact rfl; exact rfl; (repeat (first | with_reducible exact Pk.h | with_reducible apply Pk.t)); exact rfl) | ((with_reducible apply t_st); exact rfl; exact rfl; exact rfl; (repeat (first | with_reducible exact Pk.h | with_reducible apply Pk.t)); exact rfl; exact rfl; exact Nat.le_of_ble_eq_true rfl; exact rfl; (repeat (first | apply rk_nil | (apply rk_skip; exact rfl) | (apply rk_ld; exact rfl; (repeat (first | with_reducible exact Pk.h | with_reducible apply Pk.t)); exact rfl)))) | ((with_reducible apply t_nx F5.k); exact rfl; exact rfl) | with_reducible apply m_seq | (with_reducible apply m_reg mix) | with_reducible apply m_block | ((with_reducible apply m_ct); exact rfl) | ((with_reducible apply m_cf); exact rfl) | ((with_reducible apply m_skn); exact rfl) | ((with_reducible apply m_exn); exact rfl)))
  refine m_cutb (i := 5) (α := Unit) (fun _ => []) (fun _ => [Old W, X]) (fun _ => True) rfl rfl ?_ ?_
  · refine m_lp (α := Nat) (fun j => [(173, .int .i64 (j : Nat)), (171, .slice wa ws.length wc), (172, .int .i64 (ws.length : Nat)), (5, .pointer (some ⟨t, 0, none⟩))])
      (fun j => [TabL t (cutL L meT), Old W, X]) (fun j => j ≤ ws.length) (fun j => ws.length - j) ?_ 0 (by simp) [173, 171, 172, 5] rfl (by repeat (first | apply Sx.nil | apply Pk.h | apply Sx.cons | apply Pk.t))
    intro j hj
    (repeat (first | ((with_reducible apply t_run); exact rfl) | ((with_reducible apply t_p); exact rfl; exact rfl) | ((with_reducible apply t_gr); exact rfl) | ((with_reducible apply t_ge); exact rfl) | ((with_reducible apply t_ld); exact rfl; exact rfl; (repeat (first | with_reducible exact Pk.h | with_reducible apply Pk.t)); exact rfl) | ((with_reducible apply t_st); exact rfl; exact rfl; exact rfl; (repeat (first | with_reducible exact Pk.h | with_reducible apply Pk.t)); exact rfl; exact rfl; exact Nat.le_of_ble_eq_true rfl; exact rfl; (repeat (first | apply rk_nil | (apply rk_skip; exact rfl) | (apply rk_ld; exact rfl; (repeat (first | with_reducible exact Pk.h | with_reducible apply Pk.t)); exact rfl)))) | ((with_reducible apply t_nx F5.k); exact rfl; exact rfl) | with_reducible apply m_seq | (with_reducible apply m_reg mix) | with_reducible apply m_block | ((with_reducible apply m_ct); exact rfl) | ((with_reducible apply m_cf); exact rfl) | ((with_reducible apply m_skn); exact rfl) | ((with_reducible apply m_exn); exact rfl)))
    refine m_cond rfl (fun p1 => ?_) (fun p1 => ?_)
    · have hj' : j < ws.length := by have := of_decide_eq_true p1; omega
      obtain ⟨bb, bo, rfl, _⟩ := hwv.ptr (by rw [hwcl]; omega)
      have hof := Of_L t (cutL L meT) ws[j].key
      rw [mine_gone hM hsrt (List.getElem_mem hj')] at hof
      (repeat (first | ((with_reducible apply t_run); exact rfl) | ((with_reducible apply t_p); exact rfl; exact rfl) | ((with_reducible apply t_gr); exact rfl) | ((with_reducible apply t_ge); exact rfl) | ((with_reducible apply t_ld); exact rfl; exact rfl; (repeat (first | with_reducible exact Pk.h | with_reducible apply Pk.t)); exact rfl) | ((with_reducible apply t_st); exact rfl; exact rfl; exact rfl; (repeat (first | with_reducible exact Pk.h | with_reducible apply Pk.t)); exact rfl; exact rfl; exact Nat.le_of_ble_eq_true rfl; exact rfl; (repeat (first | apply rk_nil | (apply rk_skip; exact rfl) | (apply rk_ld; exact rfl; (repeat (first | with_reducible exact Pk.h | with_reducible apply Pk.t)); exact rfl)))) | ((with_reducible apply t_nx F5.k); exact rfl; exact rfl) | with_reducible apply m_seq | (with_reducible apply m_reg mix) | with_reducible apply m_block | ((with_reducible apply m_ct); exact rfl) | ((with_reducible apply m_cf); exact rfl) | ((with_reducible apply m_skn); exact rfl) | ((with_reducible apply m_exn); exact rfl)))
      refine t_ia j rfl rfl rfl hj' ?_
      refine t_la rfl rfl (R := Old W) (by repeat (first | with_reducible exact Pk.h | with_reducible apply Pk.t)) (hwv.at (by decide) (i := j) (x := ws[j].cells) (by simp [wcs, hj'])) ?_
      generalize ws[j] = w at hof ⊢
      obtain ⟨wk, wvv, wd⟩ := w
      simp only [Wr.cells]
      refine t_al rfl fun b16 => ⟨(by (repeat (first | apply rk_nil | (apply rk_skip; exact rfl) | (apply rk_ld; exact rfl; (repeat (first | with_reducible exact Pk.h | with_reducible apply Pk.t)); exact rfl)))), ?_⟩
      (repeat (first | ((with_reducible apply t_run); exact rfl) | ((with_reducible apply t_p); exact rfl; exact rfl) | ((with_reducible apply t_gr); exact rfl) | ((with_reducible apply t_ge); exact rfl) | ((with_reducible apply t_ld); exact rfl; exact rfl; (repeat (first | with_reducible exact Pk.h | with_reducible apply Pk.t)); exact rfl) | ((with_reducible apply t_st); exact rfl; exact rfl; exact rfl; (repeat (first | with_reducible exact Pk.h | with_reducible apply Pk.t)); exact rfl; exact rfl; exact Nat.le_of_ble_eq_true rfl; exact rfl; (repeat (first | apply rk_nil | (apply rk_skip; exact rfl) | (apply rk_ld; exact rfl; (repeat (first | with_reducible exact Pk.h | with_reducible apply Pk.t)); exact rfl)))) | ((with_reducible apply t_nx F5.k); exact rfl; exact rfl) | with_reducible apply m_seq | (with_reducible apply m_reg mix) | with_reducible apply m_block | ((with_reducible apply m_ct); exact rfl) | ((with_reducible apply m_cf); exact rfl) | ((with_reducible apply m_skn); exact rfl) | ((with_reducible apply m_exn); exact rfl)))
      refine t_cl rfl rfl (hof) (by repeat (first | apply Sx.nil | apply Pk.h | apply Sx.cons | apply Pk.t)) ?_
      rintro _ _ ⟨rfl, rfl⟩
      refine ⟨?_, ?_⟩ <;> (try dsimp only [List.cons_append, List.nil_append])
      · (repeat (first | apply rk_nil | (apply rk_skip; exact rfl) | (apply rk_ld; exact rfl; (repeat (first | with_reducible exact Pk.h | with_reducible apply Pk.t)); exact rfl)))
      (repeat (first | ((with_reducible apply t_run); exact rfl) | ((with_reducible apply t_p); exact rfl; exact rfl) | ((with_reducible apply t_gr); exact rfl) | ((with_reducible apply t_ge); exact rfl) | ((with_reducible apply t_ld); exact rfl; exact rfl; (repeat (first | with_reducible exact Pk.h | with_reducible apply Pk.t)); exact rfl) | ((with_reducible apply t_st); exact rfl; exact rfl; exact rfl; (repeat (first | with_reducible exact Pk.h | with_reducible apply Pk.t)); exact rfl; exact rfl; exact Nat.le_of_ble_eq_true rfl; exact rfl; (repeat (first | apply rk_nil | (apply rk_skip; exact rfl) | (apply rk_ld; exact rfl; (repeat (first | with_reducible exact Pk.h | with_reducible apply Pk.t)); exact rfl)))) | ((with_reducible apply t_nx F5.k); exact rfl; exact rfl) | with_reducible apply m_seq | (with_reducible apply m_reg mix) | with_reducible apply m_block | ((with_reducible apply m_ct); exact rfl) | ((with_reducible apply m_cf); exact rfl) | ((with_reducible apply m_skn); exact rfl) | ((with_reducible apply m_exn); exact rfl)))
      refine t_al rfl fun b17 => ⟨(by (repeat (first | apply rk_nil | (apply rk_skip; exact rfl) | (apply rk_ld; exact rfl; (repeat (first | with_reducible exact Pk.h | with_reducible apply Pk.t)); exact rfl)))), ?_⟩
      (repeat (first | ((with_reducible apply t_run); exact rfl) | ((with_reducible apply t_p); exact rfl; exact rfl) | ((with_reducible apply t_gr); exact rfl) | ((with_reducible apply t_ge); exact rfl) | ((with_reducible apply t_ld); exact rfl; exact rfl; (repeat (first | with_reducible exact Pk.h | with_reducible apply Pk.t)); exact rfl) | ((with_reducible apply t_st); exact rfl; exact rfl; exact rfl; (repeat (first | with_reducible exact Pk.h | with_reducible apply Pk.t)); exact rfl; exact rfl; exact Nat.le_of_ble_eq_true rfl; exact rfl; (repeat (first | apply rk_nil | (apply rk_skip; exact rfl) | (apply rk_ld; exact rfl; (repeat (first | with_reducible exact Pk.h | with_reducible apply Pk.t)); exact rfl)))) | ((with_reducible apply t_nx F5.k); exact rfl; exact rfl) | with_reducible apply m_seq | (with_reducible apply m_reg mix) | with_reducible apply m_block | ((with_reducible apply m_ct); exact rfl) | ((with_reducible apply m_cf); exact rfl) | ((with_reducible apply m_skn); exact rfl) | ((with_reducible apply m_exn); exact rfl)))
      refine t_meet rfl (j + 1) ⟨by omega, by omega⟩ [173, 171, 172, 5] ?_ (by repeat (first | apply Sx.nil | apply Pk.h | apply Sx.cons | apply Pk.t))
      rw [wrap_nat (by omega)]
      rfl
    · refine m_emeet (α := Unit) rfl () (by trivial) [] rfl (by repeat (first | apply Sx.nil | apply Pk.h | apply Sx.cons | apply Pk.t))
  rintro _ _
  (repeat (first | ((with_reducible apply t_run); exact rfl) | ((with_reducible apply t_p); exact rfl; exact rfl) | ((with_reducible apply t_gr); exact rfl) | ((with_reducible apply t_ge); exact rfl) | ((with_reducible apply t_ld); exact rfl; exact rfl; (repeat (first | with_reducible exact Pk.h | with_reducible apply Pk.t)); exact rfl) | ((with_reducible apply t_st); exact rfl; exact rfl; exact rfl; (repeat (first | with_reducible exact Pk.h | with_reducible apply Pk.t)); exact rfl; exact rfl; exact Nat.le_of_ble_eq_true rfl; exact rfl; (repeat (first | apply rk_nil | (apply rk_skip; exact rfl) | (apply rk_ld; exact rfl; (repeat (first | with_reducible exact Pk.h | with_reducible apply Pk.t)); exact rfl)))) | ((with_reducible apply t_nx F5.k); exact rfl; exact rfl) | with_reducible apply m_seq | (with_reducible apply m_reg mix) | with_reducible apply m_block | ((with_reducible apply m_ct); exact rfl) | ((with_reducible apply m_cf); exact rfl) | ((with_reducible apply m_skn); exact rfl) | ((with_reducible apply m_exn); exact rfl)))
  apply m_ret
  · rfl
  · (repeat (first | apply rs_nil | (apply rs_tmp; exact rfl) | (apply rs_cell; exact rfl; (repeat (first | with_reducible exact Pk.h | with_reducible apply Pk.t)); exact rfl)))
  · exact ⟨rfl, rfl⟩
  · exact (by repeat (first | apply Sx.nil | apply Pk.h | apply Sx.cons | apply Pk.t))

theorem holds_contract (H : Type) (enc : TypeId × Value → H) (W : World) (base : Nat) (args : Array Value) (ds gs : List (DataW H)) (before : List MemPlace)
    (hval : ∀ (j : Nat) t v, Try.f5.params[j]? = some t → args[j]? = some v → Value.okWide Try.prog W .any base t v)
    (hW : DataW.Whole enc Try.prog Try.f5.params.toList Rows.latchHoldsSpec.vars false W args.toList ds gs before) :
    Calls Try.prog 5 args W fun e W' => ∃ v, e = .returned v ∧ Rows.latchHoldsSpec.post enc Try.prog Try.f5 false true false false W args v W' := by
  have hW' := hW
  obtain ⟨p, q, hA0, hV, rfl, hfz, hnd⟩ := hW
  have hA : DataW.TrodAll enc Try.prog W 0 (fun _ => true) true Try.f5.params.toList args.toList ds p := hA0
  rw [Try.params5] at hA hval
  obtain ⟨v0, vs0, d0, ds0, p0, q0, hargs, rfl, rfl, h0, r0⟩ := trodAll_cons hA
  obtain ⟨v1, vs1, d1, ds1, p1, q1, rfl, rfl, rfl, h1, r1⟩ := trodAll_cons r0
  obtain ⟨rfl, rfl, rfl⟩ := trodAll_nil r1
  obtain rfl : args = #[v0, v1] := by cases args; simp_all
  obtain ⟨ws, hwv, hwl⟩ := writes_arg (hval 0 29 v0 rfl rfl) h0
  obtain ⟨acts, hsv, hal, hao⟩ := acts_arg (hval 1 22 v1 rfl rfl) h1
  exact law_calls laidOut mapsOk slPosOk hW' (by rw [Try.params5]; intro t ht; rcases (by simpa using ht : t = 29 ∨ t = 22) with rfl | rfl <;> exact of_decide_eq_true (by kernel_rfl)) rfl rfl (by kernel_rfl) Try.underlying4 (Holds_law W ws v0 acts v1 hwv hwl hsv hal hao)

theorem holds_lifted (os : Os) (started : os.Started) (H : Type) (enc : TypeId × Value → H) :
    ReturnsInHanded {} Try.checked os 5 .any (Rows.latchHoldsSpec.pre6 enc Try.prog Try.f5 Rows.latchHoldsRow.domain false) (Rows.latchHoldsSpec.post enc Try.prog Try.f5 false true false false) := by
  refine returnsInHanded_of_change (C := Try.checked) own started (by kernel_rfl) Try.func5
    (ChangeSpec.witness6 (enc := enc) (C := Try.checked) false ⟨#[], #[.slice none 0 0, .slice none 0 0], []⟩ 8 (by kernel_rfl) (by kernel_rfl) (by kernel_rfl) (by kernel_rfl)) ?_
  intro W base args ds gs before hval hW _ _
  exact holds_contract H enc W base args ds gs before hval hW

theorem holds_holds : Rows.LatchHoldsSaid :=
  OpenClaim.holds_of_wide 5 Try.f5 rfl rfl rfl rfl rfl rfl rfl ⟨rfl, rfl, rfl, rfl, rfl⟩ rfl rfl rfl rfl rfl (by kernel_rfl) Try.func5 (by kernel_rfl)
    (of_decide_eq_true (by kernel_rfl)) (by unfold Func.isWrapper; first | (rw [if_pos (by decide +kernel)]; kernel_rfl) | (rw [if_neg (by decide +kernel)]; exact ⟨rfl, rfl⟩))
    (fun os started H enc _ => holds_lifted os started H enc)
#print axioms holds_holds
end Go.Proofs.Ythcbefkgfhokoaa

