import Derived.Test.YthcbefkgfhokoaaB2
/- The map: set, get. -/
namespace Go.Proofs.Ythcbefkgfhokoaa
open Go Go.Dv
set_option maxRecDepth 100000

theorem addN_len (key : ByteArray) (v : Ow) : ∀ (t : Tr Ow), Srt (toL t) → ∀ n : Nat, n < 4611686018427387904 → (∃ d : Nat, (insK (toL t) key v).length = (toL t).length + d ∧ addN key t (n : Int) = ((n + d : Nat) : Int))
  | .nil, _, n, hn => ⟨1, by simp [toL, insK], by
      simp only [addN, IntKind.wrap, IntKind.bits, IntKind.signed]; simp; omega⟩
  | .node k v0 hi l r, hsrt, n, hn => by
    have hsl : Srt (toL l) := (List.pairwise_append.1 hsrt).1
    have hsr : Srt (toL r) := (List.pairwise_cons.1 (List.pairwise_append.1 hsrt).2.1).2
    have hlx : ∀ y ∈ toL l, slt y.1 k = true := fun y hy => (List.pairwise_append.1 hsrt).2.2 y hy (k, v0) (by simp)
    simp only [addN, toL]
    split
    · rename_i h
      obtain ⟨d, h1, h2⟩ := addN_len key v l hsl n hn
      exact ⟨d, by rw [insK_left h]; simp [h1]; omega, h2⟩
    · split
      · rename_i h
        obtain ⟨d, h1, h2⟩ := addN_len key v r hsr n hn
        exact ⟨d, by rw [insK_right h hlx]; simp [h1]; omega, h2⟩
      · rename_i h1 h2
        have hkk : key = k := by
          rcases slt_tri key k with h | h | h
          · exact absurd h h1
          · exact h
          · exact absurd h h2
        subst hkk
        exact ⟨0, by rw [insK_mid hlx]; simp, by simp⟩

theorem insK_srt {l : KL} {k : ByteArray} {v : Ow} (h : Srt l) : Srt (insK l k v) := by
  have key : ∀ l : KL, Srt l → Srt (insK l k v) ∧ ∀ y ∈ insK l k v, y.1 = k ∨ y ∈ l ∨ ∃ z ∈ l, z.1 = y.1 := by
    intro l
    induction l with
    | nil => intro _; exact ⟨by simp [insK, Srt], by simp [insK]⟩
    | cons x l ih =>
      intro hs
      have hc := List.pairwise_cons.1 hs
      obtain ⟨h1, h2⟩ := ih hc.2
      simp only [insK]
      split
      · rename_i hlt
        refine ⟨List.pairwise_cons.2 ⟨fun y hy => ?_, hs⟩, fun y hy => ?_⟩
        · rcases List.mem_cons.1 hy with rfl | hy
          · exact hlt
          · exact slt_trans hlt (hc.1 y hy)
        · rcases List.mem_cons.1 hy with rfl | hy
          · exact .inl rfl
          · exact .inr (.inl hy)
      · split
        · rename_i hgt
          refine ⟨List.pairwise_cons.2 ⟨fun y hy => ?_, h1⟩, fun y hy => ?_⟩
          · rcases h2 y hy with h | h | ⟨z, hz, h⟩
            · rw [h]; exact hgt
            · exact hc.1 y h
            · rw [← h]; exact hc.1 z hz
          · rcases List.mem_cons.1 hy with rfl | hy
            · exact .inr (.inl (by simp))
            · rcases h2 y hy with h | h | ⟨z, hz, h⟩
              · exact .inl h
              · exact .inr (.inl (by simp [h]))
              · exact .inr (.inr ⟨z, by simp [hz], h⟩)
        · rename_i h3 h4
          refine ⟨List.pairwise_cons.2 ⟨fun y hy => hc.1 y hy, hc.2⟩, fun y hy => ?_⟩
          rcases List.mem_cons.1 hy with rfl | hy
          · exact .inr (.inr ⟨x, by simp, rfl⟩)
          · exact .inr (.inl (by simp [hy]))
  exact (key l h).1

/-- The map at m holds l. -/
def MpA (m : Nat) (l : KL) : HP := fun h => ∃ x : Option Addr × Tr Ow, (toL x.2 = l ∧ Hk x.2 ∧ Srt l ∧ l.length < 549755813888) ∧ Sep [Cl m 90 [.pointer x.1, .int .i64 (l.length : Nat)], TrA x.1 x.2] h
theorem en_map {m : Nat} {l : KL} {aa rs : List HP} {J : PH → Prop} (pk : Pk aa (MpA m l) rs)
    (k : ∀ rt t, toL t = l → Hk t → Srt l → l.length < 549755813888 → En (Cl m 90 [.pointer rt, .int .i64 (l.length : Nat)] :: TrA rt t :: rs) J) : En aa J :=
  en_open (x := MpA m l) (fun _ h => h) pk fun x hx => k x.1 x.2 hx.1 hx.2.1 hx.2.2.1 hx.2.2.2
theorem en_mkmap {m : Nat} {l : KL} {rt : Option Addr} {t : Tr Ow} {n : Int} {aa rs : List HP} {J : PH → Prop} (hl : toL t = l) (hk : Hk t) (hs : Srt l) (hb : l.length < 549755813888) (hn : n = (l.length : Nat))
    (sx : Sx aa [Cl m 90 [.pointer rt, .int .i64 n], TrA rt t] rs) (k : En (MpA m l :: rs) J) : En aa J :=
  en_fold (fun _ hh => ⟨(rt, t), ⟨hl, hk, hs, hb⟩, by rw [← hn]; exact hh⟩) sx k
attribute [local irreducible] HTh HM En Fsp TrA Cl MpA

theorem Set_spec (m : Nat) (key : ByteArray) (v : Ow) (l : KL) (hb : l.length + 1 < 549755813888) :
    Fsp Try.prog 35 [.pointer (some ⟨m, 0, none⟩), .string key, owV v] [MpA m l] fun u aa' => u = .tuple #[] ∧ aa' = [MpA m (insK l key v)] := by
  refine spec_of F35.ok rfl fun gl X => ?_
  dsimp only [List.cons_append, List.nil_append]
  refine en_map (by repeat (first | with_reducible exact Pk.h | with_reducible apply Pk.t)) ?_
  intro rt t hl hk hs _
  subst hl
  (repeat (first | ((with_reducible apply t_run); exact rfl) | ((with_reducible apply t_p); exact rfl; exact rfl) | ((with_reducible apply t_gr); exact rfl) | ((with_reducible apply t_ge); exact rfl) | ((with_reducible apply t_ld); exact rfl; exact rfl; (repeat (first | with_reducible exact Pk.h | with_reducible apply Pk.t)); exact rfl) | ((with_reducible apply t_st); exact rfl; exact rfl; exact rfl; (repeat (first | with_reducible exact Pk.h | with_reducible apply Pk.t)); exact rfl; exact rfl; exact Nat.le_of_ble_eq_true rfl; exact rfl; (repeat (first | apply rk_nil | (apply rk_skip; exact rfl) | (apply rk_ld; exact rfl; (repeat (first | with_reducible exact Pk.h | with_reducible apply Pk.t)); exact rfl)))) | ((with_reducible apply t_nx F35.k); exact rfl; exact rfl) | with_reducible apply m_seq | (with_reducible apply m_reg mix) | with_reducible apply m_block | ((with_reducible apply m_ct); exact rfl) | ((with_reducible apply m_cf); exact rfl) | ((with_reducible apply m_skn); exact rfl) | ((with_reducible apply m_exn); exact rfl)))
  refine t_bx rfl rfl rfl fun bv => ⟨(by (repeat (first | apply rk_nil | (apply rk_skip; exact rfl) | (apply rk_ld; exact rfl; (repeat (first | with_reducible exact Pk.h | with_reducible apply Pk.t)); exact rfl)))), ?_⟩
  try dsimp only [List.cons_append, List.nil_append]
  (repeat (first | ((with_reducible apply t_run); exact rfl) | ((with_reducible apply t_p); exact rfl; exact rfl) | ((with_reducible apply t_gr); exact rfl) | ((with_reducible apply t_ge); exact rfl) | ((with_reducible apply t_ld); exact rfl; exact rfl; (repeat (first | with_reducible exact Pk.h | with_reducible apply Pk.t)); exact rfl) | ((with_reducible apply t_st); exact rfl; exact rfl; exact rfl; (repeat (first | with_reducible exact Pk.h | with_reducible apply Pk.t)); exact rfl; exact rfl; exact Nat.le_of_ble_eq_true rfl; exact rfl; (repeat (first | apply rk_nil | (apply rk_skip; exact rfl) | (apply rk_ld; exact rfl; (repeat (first | with_reducible exact Pk.h | with_reducible apply Pk.t)); exact rfl)))) | ((with_reducible apply t_nx F35.k); exact rfl; exact rfl) | with_reducible apply m_seq | (with_reducible apply m_reg mix) | with_reducible apply m_block | ((with_reducible apply m_ct); exact rfl) | ((with_reducible apply m_cf); exact rfl) | ((with_reducible apply m_skn); exact rfl) | ((with_reducible apply m_exn); exact rfl)))
  have hsz : sz t < 549755813888 := by rw [sz_len]; omega
  refine t_cl rfl rfl (set_spec m key v rt t rt _ hk hsz hs) (by repeat (first | apply Sx.nil | apply Pk.h | apply Sx.cons | apply Pk.t)) ?_
  rintro _ _ ⟨a', rfl, rfl⟩
  refine ⟨?_, ?_⟩ <;> (try dsimp only [List.cons_append, List.nil_append])
  · (repeat (first | apply rk_nil | (apply rk_skip; exact rfl) | (apply rk_ld; exact rfl; (repeat (first | with_reducible exact Pk.h | with_reducible apply Pk.t)); exact rfl)))
  (repeat (first | ((with_reducible apply t_run); exact rfl) | ((with_reducible apply t_p); exact rfl; exact rfl) | ((with_reducible apply t_gr); exact rfl) | ((with_reducible apply t_ge); exact rfl) | ((with_reducible apply t_ld); exact rfl; exact rfl; (repeat (first | with_reducible exact Pk.h | with_reducible apply Pk.t)); exact rfl) | ((with_reducible apply t_st); exact rfl; exact rfl; exact rfl; (repeat (first | with_reducible exact Pk.h | with_reducible apply Pk.t)); exact rfl; exact rfl; exact Nat.le_of_ble_eq_true rfl; exact rfl; (repeat (first | apply rk_nil | (apply rk_skip; exact rfl) | (apply rk_ld; exact rfl; (repeat (first | with_reducible exact Pk.h | with_reducible apply Pk.t)); exact rfl)))) | ((with_reducible apply t_nx F35.k); exact rfl; exact rfl) | with_reducible apply m_seq | (with_reducible apply m_reg mix) | with_reducible apply m_block | ((with_reducible apply m_ct); exact rfl) | ((with_reducible apply m_cf); exact rfl) | ((with_reducible apply m_skn); exact rfl) | ((with_reducible apply m_exn); exact rfl)))
  obtain ⟨d, h1, h2⟩ := addN_len key v t hs (toL t).length (by omega)
  obtain ⟨h3, h4, _, _⟩ := ins_ok key v t hk hsz hs
  have hlen := insK_len (toL t) key v
  refine en_mkmap (m := m) (l := insK (toL t) key v) (rt := a') (t := ins key v t) h4 h3 (insK_srt hs) (by omega) (n := addN key t ((toL t).length : Nat)) (by rw [h2, h1]) (by repeat (first | apply Sx.nil | apply Pk.h | apply Sx.cons | apply Pk.t)) ?_
  apply t_ret
  · rfl
  · (repeat (first | apply rs_nil | (apply rs_tmp; exact rfl) | (apply rs_cell; exact rfl; (repeat (first | with_reducible exact Pk.h | with_reducible apply Pk.t)); exact rfl)))
  · exact ⟨rfl, rfl⟩
  · exact (by repeat (first | apply Sx.nil | apply Pk.h | apply Sx.cons | apply Pk.t))

def fnd (key : ByteArray) : Tr Ow → Option Ow
  | .nil => none
  | .node k v _ l r => if slt key k then fnd key l else if slt k key then fnd key r else some v
theorem getK_left {l r : KL} {x : ByteArray × Ow} {key : ByteArray} (h : slt key x.1 = true) (hr : ∀ y ∈ r, slt x.1 y.1 = true) : getK (l ++ x :: r) key = getK l key := by
  have h1 : (x :: r).find? (fun y => decide (y.1 = key)) = none := by
    rw [List.find?_eq_none]
    intro y hy
    rcases List.mem_cons.1 hy with rfl | hy
    · simpa using (slt_ne h).symm
    · simpa using (slt_ne (slt_trans h (hr y hy))).symm
  simp only [getK, List.find?_append, h1, Option.or_none]
theorem getK_right {l r : KL} {x : ByteArray × Ow} {key : ByteArray} (h : slt x.1 key = true) (hl : ∀ y ∈ l, slt y.1 x.1 = true) : getK (l ++ x :: r) key = getK r key := by
  have h1 : l.find? (fun y => decide (y.1 = key)) = none := by
    rw [List.find?_eq_none]
    intro y hy
    simpa using (slt_ne (slt_trans (hl y hy) h))
  have h2 : decide (x.1 = key) = false := by simpa using slt_ne h
  simp only [getK, List.find?_append, h1, Option.none_or, List.find?_cons, h2]
theorem getK_mid {l r : KL} {v : Ow} {key : ByteArray} (hl : ∀ y ∈ l, slt y.1 key = true) : getK (l ++ (key, v) :: r) key = some v := by
  have h1 : l.find? (fun y => decide (y.1 = key)) = none := by
    rw [List.find?_eq_none]
    intro y hy
    simpa using (slt_ne (hl y hy))
  simp [getK, List.find?_append, h1]
theorem fnd_eq (key : ByteArray) : ∀ t : Tr Ow, Srt (toL t) → fnd key t = getK (toL t) key
  | .nil, _ => rfl
  | .node k v hi l r, hsrt => by
    have hsl : Srt (toL l) := (List.pairwise_append.1 hsrt).1
    have hsr : Srt (toL r) := (List.pairwise_cons.1 (List.pairwise_append.1 hsrt).2.1).2
    have hxr : ∀ y ∈ toL r, slt k y.1 = true := (List.pairwise_cons.1 (List.pairwise_append.1 hsrt).2.1).1
    have hlx : ∀ y ∈ toL l, slt y.1 k = true := fun y hy => (List.pairwise_append.1 hsrt).2.2 y hy (k, v) (by simp)
    simp only [fnd, toL]
    split
    · rename_i h; rw [fnd_eq key l hsl, getK_left h hxr]
    · split
      · rename_i h; rw [fnd_eq key r hsr, getK_right h hlx]
      · rename_i h1 h2
        have hkk : key = k := by
          rcases slt_tri key k with h | h | h
          · exact absurd h h1
          · exact h
          · exact absurd h h2
        subst hkk
        rw [getK_mid hlx]

def owZ : Ow := ⟨0, 0, ⟨#[]⟩, ⟨#[]⟩, false⟩
section
attribute [local semireducible] TrA
theorem trA_up {a : Option Addr} {t : Tr Ow} {l : List HP} {h : PH} (hs : Sep (TrA a t :: l) h) : TrA a t h := by
  obtain ⟨h1, h2, d, u, hx, _⟩ := hs
  cases t with
  | nil => exact hx
  | node k v hi l r =>
    obtain ⟨x, e, hx⟩ := hx
    exact ⟨x, e, sep_mono hx fun b o hb => by rw [u b, hb]; rfl⟩
theorem trA_node {b : Nat} {al ar : Option Addr} {k : ByteArray} {v : Ow} {hi : Int} {l r : Tr Ow} {h : PH} (hs : Sep [Cl b 92 (nodeCells k v hi al ar), TrA al l, TrA ar r] h) : TrA (some ⟨b, 0, none⟩) (.node k v hi l r) h := ⟨(b, al, ar), rfl, hs⟩
end
theorem wandL {b : Nat} {al ar rt : Option Addr} {k : ByteArray} {v : Ow} {hi : Int} {l r t : Tr Ow} : ∀ h, Sep [Wand (TrA (some ⟨b, 0, none⟩) (.node k v hi l r)) (TrA rt t), Cl b 92 (nodeCells k v hi al ar), TrA ar r] h → Wand (TrA al l) (TrA rt t) h := by
  refine wand_mk fun h hs => ?_
  have h1 : Sep ([Cl b 92 (nodeCells k v hi al ar), TrA al l, TrA ar r] ++ [Wand (TrA (some ⟨b, 0, none⟩) (.node k v hi l r)) (TrA rt t)]) h :=
    (Sx.cons (.t (.t .h)) (.cons .h (.cons (.t .h) .nil)) : Sx [TrA al l, Wand (TrA (some ⟨b, 0, none⟩) (.node k v hi l r)) (TrA rt t), Cl b 92 (nodeCells k v hi al ar), TrA ar r] [Cl b 92 (nodeCells k v hi al ar), TrA al l, TrA ar r] _).out hs
  exact trA_up (wand_use (sep_swap (sep_fold (fun _ => trA_node) h1)))
theorem wandR {b : Nat} {al ar rt : Option Addr} {k : ByteArray} {v : Ow} {hi : Int} {l r t : Tr Ow} : ∀ h, Sep [Wand (TrA (some ⟨b, 0, none⟩) (.node k v hi l r)) (TrA rt t), Cl b 92 (nodeCells k v hi al ar), TrA al l] h → Wand (TrA ar r) (TrA rt t) h := by
  refine wand_mk fun h hs => ?_
  have h1 : Sep ([Cl b 92 (nodeCells k v hi al ar), TrA al l, TrA ar r] ++ [Wand (TrA (some ⟨b, 0, none⟩) (.node k v hi l r)) (TrA rt t)]) h :=
    (Sx.cons (.t (.t .h)) (.cons (.t (.t .h)) (.cons .h .nil)) : Sx [TrA ar r, Wand (TrA (some ⟨b, 0, none⟩) (.node k v hi l r)) (TrA rt t), Cl b 92 (nodeCells k v hi al ar), TrA al l] [Cl b 92 (nodeCells k v hi al ar), TrA al l, TrA ar r] _).out hs
  exact trA_up (wand_use (sep_swap (sep_fold (fun _ => trA_node) h1)))

def getE (m b4 b6 : Nat) (key : ByteArray) (a : Option Addr) : Env := [(0, .pointer (some ⟨m, 0, none⟩)), (1, .string key), (4, .pointer (some ⟨b4, 0, none⟩)), (6, .pointer (some ⟨b6, 0, none⟩)), (7, .pointer a)]
def getA (m b4 b6 : Nat) (rt : Option Addr) (t : Tr Ow) (X : HP) (a : Option Addr) (t' : Tr Ow) : List HP :=
  [Wand (TrA a t') (TrA rt t), TrA a t', Cl b4 63 (owV owZ).cells.toList, Cl b6 63 (owV owZ).cells.toList, Cl m 90 [.pointer rt, .int .i64 ((toL t).length : Nat)], X]
theorem get_body (gl : Gl) (X : HP) (m b4 b6 : Nat) (key : ByteArray) (rt : Option Addr) (t : Tr Ow) (hk : Hk t) (hs : Srt (toL t)) (hb : (toL t).length < 549755813888) (J : Nat → Env → PH → Prop) (a : Option Addr) (t' : Tr Ow)
    (hJ : ∀ (a2 : Option Addr) (t2 : Tr Ow) (e : Env), sz t2 < sz t' → fnd key t2 = fnd key t → Env.le (getE m b4 b6 key a2) e → En (getA m b4 b6 rt t X a2 t2) (J 0 e)) (hf : fnd key t' = fnd key t) :
    En (getA m b4 b6 rt t X a t') (HM Try.prog 45 gl F30l0 (scopeK F30s1 J (retK [(4, (some (some 5))), (5, none)] (PostJ (fun u aa' => u = .tuple #[owV ((fnd key t).getD owZ), .bool (fnd key t).isSome] ∧ aa' = [MpA m (toL t)]) X))) (getE m b4 b6 key a)) := by
  unfold getA getE
  -- spec_of F30.ok
  cases t' with
  | nil =>
    refine en_nil (by repeat (first | with_reducible exact Pk.h | with_reducible apply Pk.t)) ?_
    rintro rfl
    (repeat (first | ((with_reducible apply t_run); exact rfl) | ((with_reducible apply t_p); exact rfl; exact rfl) | ((with_reducible apply t_gr); exact rfl) | ((with_reducible apply t_ge); exact rfl) | ((with_reducible apply t_ld); exact rfl; exact rfl; (repeat (first | with_reducible exact Pk.h | with_reducible apply Pk.t)); exact rfl) | ((with_reducible apply t_st); exact rfl; exact rfl; exact rfl; (repeat (first | with_reducible exact Pk.h | with_reducible apply Pk.t)); exact rfl; exact rfl; exact Nat.le_of_ble_eq_true rfl; exact rfl; (repeat (first | apply rk_nil | (apply rk_skip; exact rfl) | (apply rk_ld; exact rfl; (repeat (first | with_reducible exact Pk.h | with_reducible apply Pk.t)); exact rfl)))) | ((with_reducible apply t_nx F30.k); exact rfl; exact rfl) | with_reducible apply m_seq | (with_reducible apply m_reg mix) | with_reducible apply m_block | ((with_reducible apply m_ct); exact rfl) | ((with_reducible apply m_cf); exact rfl) | ((with_reducible apply m_skn); exact rfl) | ((with_reducible apply m_exn); exact rfl)))
    refine en_wand (x := TrA none .nil) (y := TrA rt t) (by repeat (first | apply Sx.nil | apply Pk.h | apply Sx.cons | apply Pk.t)) ?_
    refine en_mkmap (m := m) rfl hk hs hb rfl (by repeat (first | apply Sx.nil | apply Pk.h | apply Sx.cons | apply Pk.t)) ?_
    rw [← hf]
    apply m_ret
    · rfl
    · (repeat (first | apply rs_nil | (apply rs_tmp; exact rfl) | (apply rs_cell; exact rfl; (repeat (first | with_reducible exact Pk.h | with_reducible apply Pk.t)); exact rfl)))
    · exact ⟨rfl, rfl⟩
    · exact (by repeat (first | apply Sx.nil | apply Pk.h | apply Sx.cons | apply Pk.t))
  | node k v hi l r =>
    refine en_tree (by repeat (first | with_reducible exact Pk.h | with_reducible apply Pk.t)) ?_
    rintro b al ar rfl
    (repeat (first | ((with_reducible apply t_run); exact rfl) | ((with_reducible apply t_p); exact rfl; exact rfl) | ((with_reducible apply t_gr); exact rfl) | ((with_reducible apply t_ge); exact rfl) | ((with_reducible apply t_ld); exact rfl; exact rfl; (repeat (first | with_reducible exact Pk.h | with_reducible apply Pk.t)); exact rfl) | ((with_reducible apply t_st); exact rfl; exact rfl; exact rfl; (repeat (first | with_reducible exact Pk.h | with_reducible apply Pk.t)); exact rfl; exact rfl; exact Nat.le_of_ble_eq_true rfl; exact rfl; (repeat (first | apply rk_nil | (apply rk_skip; exact rfl) | (apply rk_ld; exact rfl; (repeat (first | with_reducible exact Pk.h | with_reducible apply Pk.t)); exact rfl)))) | ((with_reducible apply t_nx F30.k); exact rfl; exact rfl) | with_reducible apply m_seq | (with_reducible apply m_reg mix) | with_reducible apply m_block | ((with_reducible apply m_ct); exact rfl) | ((with_reducible apply m_cf); exact rfl) | ((with_reducible apply m_skn); exact rfl) | ((with_reducible apply m_exn); exact rfl)))
    refine m_cond rfl (fun h1 => ?_) (fun h1 => ?_)
    · (repeat (first | ((with_reducible apply t_run); exact rfl) | ((with_reducible apply t_p); exact rfl; exact rfl) | ((with_reducible apply t_gr); exact rfl) | ((with_reducible apply t_ge); exact rfl) | ((with_reducible apply t_ld); exact rfl; exact rfl; (repeat (first | with_reducible exact Pk.h | with_reducible apply Pk.t)); exact rfl) | ((with_reducible apply t_st); exact rfl; exact rfl; exact rfl; (repeat (first | with_reducible exact Pk.h | with_reducible apply Pk.t)); exact rfl; exact rfl; exact Nat.le_of_ble_eq_true rfl; exact rfl; (repeat (first | apply rk_nil | (apply rk_skip; exact rfl) | (apply rk_ld; exact rfl; (repeat (first | with_reducible exact Pk.h | with_reducible apply Pk.t)); exact rfl)))) | ((with_reducible apply t_nx F30.k); exact rfl; exact rfl) | with_reducible apply m_seq | (with_reducible apply m_reg mix) | with_reducible apply m_block | ((with_reducible apply m_ct); exact rfl) | ((with_reducible apply m_cf); exact rfl) | ((with_reducible apply m_skn); exact rfl) | ((with_reducible apply m_exn); exact rfl)))
      refine m_gto rfl rfl ?_
      refine en_fold (x := Wand (TrA al l) (TrA rt t)) wandL (by repeat (first | apply Sx.nil | apply Pk.h | apply Sx.cons | apply Pk.t)) ?_
      refine en_sx (ys := getA m b4 b6 rt t X al l) (by unfold getA; repeat (first | apply Sx.nil | apply Pk.h | apply Sx.cons | apply Pk.t)) ?_
      refine hJ al l _ (by simp only [sz]; omega) (by rw [← hf]; simp only [fnd]; rw [if_pos h1]) (selO_get (L := [0, 1, 4, 6, 7]) rfl)
    · (repeat (first | ((with_reducible apply t_run); exact rfl) | ((with_reducible apply t_p); exact rfl; exact rfl) | ((with_reducible apply t_gr); exact rfl) | ((with_reducible apply t_ge); exact rfl) | ((with_reducible apply t_ld); exact rfl; exact rfl; (repeat (first | with_reducible exact Pk.h | with_reducible apply Pk.t)); exact rfl) | ((with_reducible apply t_st); exact rfl; exact rfl; exact rfl; (repeat (first | with_reducible exact Pk.h | with_reducible apply Pk.t)); exact rfl; exact rfl; exact Nat.le_of_ble_eq_true rfl; exact rfl; (repeat (first | apply rk_nil | (apply rk_skip; exact rfl) | (apply rk_ld; exact rfl; (repeat (first | with_reducible exact Pk.h | with_reducible apply Pk.t)); exact rfl)))) | ((with_reducible apply t_nx F30.k); exact rfl; exact rfl) | with_reducible apply m_seq | (with_reducible apply m_reg mix) | with_reducible apply m_block | ((with_reducible apply m_ct); exact rfl) | ((with_reducible apply m_cf); exact rfl) | ((with_reducible apply m_skn); exact rfl) | ((with_reducible apply m_exn); exact rfl)))
      refine m_cond rfl (fun h2 => ?_) (fun h2 => ?_)
      · (repeat (first | ((with_reducible apply t_run); exact rfl) | ((with_reducible apply t_p); exact rfl; exact rfl) | ((with_reducible apply t_gr); exact rfl) | ((with_reducible apply t_ge); exact rfl) | ((with_reducible apply t_ld); exact rfl; exact rfl; (repeat (first | with_reducible exact Pk.h | with_reducible apply Pk.t)); exact rfl) | ((with_reducible apply t_st); exact rfl; exact rfl; exact rfl; (repeat (first | with_reducible exact Pk.h | with_reducible apply Pk.t)); exact rfl; exact rfl; exact Nat.le_of_ble_eq_true rfl; exact rfl; (repeat (first | apply rk_nil | (apply rk_skip; exact rfl) | (apply rk_ld; exact rfl; (repeat (first | with_reducible exact Pk.h | with_reducible apply Pk.t)); exact rfl)))) | ((with_reducible apply t_nx F30.k); exact rfl; exact rfl) | with_reducible apply m_seq | (with_reducible apply m_reg mix) | with_reducible apply m_block | ((with_reducible apply m_ct); exact rfl) | ((with_reducible apply m_cf); exact rfl) | ((with_reducible apply m_skn); exact rfl) | ((with_reducible apply m_exn); exact rfl)))
        refine m_gto rfl rfl ?_
        refine en_fold (x := Wand (TrA ar r) (TrA rt t)) wandR (by repeat (first | apply Sx.nil | apply Pk.h | apply Sx.cons | apply Pk.t)) ?_
        refine en_sx (ys := getA m b4 b6 rt t X ar r) (by unfold getA; repeat (first | apply Sx.nil | apply Pk.h | apply Sx.cons | apply Pk.t)) ?_
        refine hJ ar r _ (by simp only [sz]; omega) (by rw [← hf]; simp only [fnd]; rw [if_neg (by simp [h1]), if_pos h2]) (selO_get (L := [0, 1, 4, 6, 7]) rfl)
      · (repeat (first | ((with_reducible apply t_run); exact rfl) | ((with_reducible apply t_p); exact rfl; exact rfl) | ((with_reducible apply t_gr); exact rfl) | ((with_reducible apply t_ge); exact rfl) | ((with_reducible apply t_ld); exact rfl; exact rfl; (repeat (first | with_reducible exact Pk.h | with_reducible apply Pk.t)); exact rfl) | ((with_reducible apply t_st); exact rfl; exact rfl; exact rfl; (repeat (first | with_reducible exact Pk.h | with_reducible apply Pk.t)); exact rfl; exact rfl; exact Nat.le_of_ble_eq_true rfl; exact rfl; (repeat (first | apply rk_nil | (apply rk_skip; exact rfl) | (apply rk_ld; exact rfl; (repeat (first | with_reducible exact Pk.h | with_reducible apply Pk.t)); exact rfl)))) | ((with_reducible apply t_nx F30.k); exact rfl; exact rfl) | with_reducible apply m_seq | (with_reducible apply m_reg mix) | with_reducible apply m_block | ((with_reducible apply m_ct); exact rfl) | ((with_reducible apply m_cf); exact rfl) | ((with_reducible apply m_skn); exact rfl) | ((with_reducible apply m_exn); exact rfl)))
        refine en_node (b := b) (l := l) (r := r) (by repeat (first | apply Sx.nil | apply Pk.h | apply Sx.cons | apply Pk.t)) ?_
        refine en_wand (y := TrA rt t) (by repeat (first | apply Sx.nil | apply Pk.h | apply Sx.cons | apply Pk.t)) ?_
        refine en_mkmap (m := m) rfl hk hs hb rfl (by repeat (first | apply Sx.nil | apply Pk.h | apply Sx.cons | apply Pk.t)) ?_
        have hf2 : fnd key t = some v := by rw [← hf]; simp only [fnd]; rw [if_neg (by simp [h1]), if_neg (by simp [h2])]
        rw [hf2]
        apply m_ret
        · rfl
        · (repeat (first | apply rs_nil | (apply rs_tmp; exact rfl) | (apply rs_cell; exact rfl; (repeat (first | with_reducible exact Pk.h | with_reducible apply Pk.t)); exact rfl)))
        · exact ⟨rfl, rfl⟩
        · exact (by repeat (first | apply Sx.nil | apply Pk.h | apply Sx.cons | apply Pk.t))

theorem Get_spec (m : Nat) (key : ByteArray) (l : KL) :
    Fsp Try.prog 30 [.pointer (some ⟨m, 0, none⟩), .string key] [MpA m l] fun u aa' => u = .tuple #[owV ((getK l key).getD owZ), .bool (getK l key).isSome] ∧ aa' = [MpA m l] := by
  refine spec_of F30.ok rfl fun gl X => ?_
  dsimp only [List.cons_append, List.nil_append]
  refine en_map (by repeat (first | with_reducible exact Pk.h | with_reducible apply Pk.t)) ?_
  intro rt t hl hk hs hb
  subst hl
  rw [← fnd_eq key t hs]
  refine m_seq (m_reg mix (t_al rfl fun b4 => ⟨rk_nil, ?_⟩))
  (repeat (first | ((with_reducible apply t_run); exact rfl) | ((with_reducible apply t_p); exact rfl; exact rfl) | ((with_reducible apply t_gr); exact rfl) | ((with_reducible apply t_ge); exact rfl) | ((with_reducible apply t_ld); exact rfl; exact rfl; (repeat (first | with_reducible exact Pk.h | with_reducible apply Pk.t)); exact rfl) | ((with_reducible apply t_st); exact rfl; exact rfl; exact rfl; (repeat (first | with_reducible exact Pk.h | with_reducible apply Pk.t)); exact rfl; exact rfl; exact Nat.le_of_ble_eq_true rfl; exact rfl; (repeat (first | apply rk_nil | (apply rk_skip; exact rfl) | (apply rk_ld; exact rfl; (repeat (first | with_reducible exact Pk.h | with_reducible apply Pk.t)); exact rfl)))) | ((with_reducible apply t_nx F30.k); exact rfl; exact rfl) | with_reducible apply m_seq | (with_reducible apply m_reg mix) | with_reducible apply m_block | ((with_reducible apply m_ct); exact rfl) | ((with_reducible apply m_cf); exact rfl) | ((with_reducible apply m_skn); exact rfl) | ((with_reducible apply m_exn); exact rfl)))
  refine m_scope (α := Nat × Option Addr × Tr Ow) (fun x l e aa => l = 0 ∧ fnd key x.2.2 = fnd key t ∧ Env.le (getE m b4 x.1 key x.2.1) e ∧ aa = getA m b4 x.1 rt t X x.2.1 x.2.2) (fun x => sz x.2.2) ?_ ?_
  · refine m_seq (m_reg mix (t_al rfl fun b6 => ⟨rk_nil, ?_⟩))
    (repeat (first | ((with_reducible apply t_run); exact rfl) | ((with_reducible apply t_p); exact rfl; exact rfl) | ((with_reducible apply t_gr); exact rfl) | ((with_reducible apply t_ge); exact rfl) | ((with_reducible apply t_ld); exact rfl; exact rfl; (repeat (first | with_reducible exact Pk.h | with_reducible apply Pk.t)); exact rfl) | ((with_reducible apply t_st); exact rfl; exact rfl; exact rfl; (repeat (first | with_reducible exact Pk.h | with_reducible apply Pk.t)); exact rfl; exact rfl; exact Nat.le_of_ble_eq_true rfl; exact rfl; (repeat (first | apply rk_nil | (apply rk_skip; exact rfl) | (apply rk_ld; exact rfl; (repeat (first | with_reducible exact Pk.h | with_reducible apply Pk.t)); exact rfl)))) | ((with_reducible apply t_nx F30.k); exact rfl; exact rfl) | with_reducible apply m_seq | (with_reducible apply m_reg mix) | with_reducible apply m_block | ((with_reducible apply m_ct); exact rfl) | ((with_reducible apply m_cf); exact rfl) | ((with_reducible apply m_skn); exact rfl) | ((with_reducible apply m_exn); exact rfl)))
    refine m_lbn rfl ?_
    refine en_emp (x := Wand (TrA rt t) (TrA rt t)) (wand_mk (ys := []) (fun h hs => trA_up hs) _ trivial) ?_
    refine en_sx (ys := getA m b4 b6 rt t X rt t) (by unfold getA; repeat (first | apply Sx.nil | apply Pk.h | apply Sx.cons | apply Pk.t)) ?_
    refine m_less (e' := getE m b4 b6 key rt) (selO_get (L := [0, 1, 4, 6, 7]) rfl) ?_
    refine get_body gl X m b4 b6 key rt t hk hs hb _ rt t ?_ rfl
    intro a2 t2 e _ h2 h3
    refine en_i fun h hs => ?_
    exact ⟨(b6, a2, t2), _, ⟨rfl, h2, h3, rfl⟩, hs⟩
  · rintro ⟨b6, a, t'⟩ l mr e aa hm ⟨rfl, h1, h2, rfl⟩
    obtain rfl : MC.seq .skip F30l0 = mr := by injection hm
    refine m_less h2 ?_
    refine m_seq (m_skn rfl ?_)
    refine get_body gl X m b4 b6 key rt t hk hs hb _ a t' ?_ h1
    intro a2 t2 e hlt h2 h3
    refine en_i fun h hs => ?_
    exact ⟨(b6, a2, t2), _, hlt, ⟨rfl, h2, h3, rfl⟩, hs⟩
end Go.Proofs.Ythcbefkgfhokoaa
