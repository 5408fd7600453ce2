import Derived.Test.YthcbefkgfhokoaaBK
/- The table, plainly: a list of intents in the order of keys. -/
namespace Go.Proofs.Ythcbefkgfhokoaa
open Go Go.Dv
open Classical

def ow (y : In) : Ow := ⟨y.tx.c, y.tx.n, y.w.key, y.w.val, y.w.dead⟩
def kow (y : In) : ByteArray × Ow := (y.w.key, ow y)
def SrtI (L : List In) : Prop := L.Pairwise fun x y => slt x.w.key y.w.key = true
def putL : List In → In → List In
  | [], x => [x]
  | y :: L, x => if slt y.w.key x.w.key then y :: putL L x else x :: y :: L
def byL (L : List In) (tx : Tx) : List In := L.filter fun y => eqT y.tx tx
def cutL (L : List In) (tx : Tx) : List In := L.filter fun y => !eqT y.tx tx
def ofL (L : List In) (k : ByteArray) : Option In := L.find? fun y => decide (y.w.key = k)
def raiseL (L : List In) (tx : Tx) (s : Sm) : List In := L.map fun y => if eqT y.tx tx then { y with min := maxS y.min s } else y
def mkI (tx : Tx) (hd : Hd) (w : Wr) : In := ⟨tx, hd.start, hd.min, hd.prim, w⟩
def layF (tx : Tx) (hd : Hd) (L : List In) (ws : List Wr) : List In := ws.foldl (fun L w => putL L (mkI tx hd w)) L
def Sm.nn (s : Sm) : Prop := 0 ≤ s.p ∧ 0 ≤ s.l

theorem eqT_iff {a b : Tx} : eqT a b = true ↔ a = b := by
  obtain ⟨c, n⟩ := a
  obtain ⟨c', n'⟩ := b
  simp [eqT]
theorem eqT_no {a b : Tx} (h : a ≠ b) : eqT a b = false := by
  cases e : eqT a b with
  | false => rfl
  | true => exact absurd (eqT_iff.1 e) h
theorem eqT_self (a : Tx) : eqT a a = true := eqT_iff.2 rfl

structure Inv (hs : List Hold) (keys : KL) (L : List In) : Prop where
  keys : keys = L.map kow
  srt : SrtI L
  txs : hs.Pairwise fun x y => x.tx ≠ y.tx
  own : ∀ x ∈ hs, inL x = byL L x.tx ∧ x.ws ≠ []
  has : ∀ y ∈ L, ∃ x ∈ hs, x.tx = y.tx
  ok : ∀ y ∈ L, y.tx.ok ∧ y.min.nn
  fit : ∀ x ∈ hs, x.ws.length ≤ 16

section
variable {hs : List Hold} {keys : KL} {L : List In}

theorem inv_nil : Inv [] [] [] := ⟨rfl, List.Pairwise.nil, List.Pairwise.nil, by simp, by simp, by simp, by simp⟩
theorem Inv.tok (I : Inv hs keys L) {x : Hold} (hx : x ∈ hs) : x.tx.ok := by
  obtain ⟨h1, h2⟩ := I.own x hx
  cases hw : x.ws with
  | nil => exact absurd hw h2
  | cons w ws =>
    have h3 : (⟨x.tx, x.hd.start, x.hd.min, x.hd.prim, w⟩ : In) ∈ inL x := by simp [inL, hw]
    rw [h1] at h3
    have := (I.ok _ (List.mem_filter.1 h3).1).1
    exact this
theorem Inv.mnn (I : Inv hs keys L) {x : Hold} (hx : x ∈ hs) : x.hd.min.nn := by
  obtain ⟨h1, h2⟩ := I.own x hx
  cases hw : x.ws with
  | nil => exact absurd hw h2
  | cons w ws =>
    have h3 : (⟨x.tx, x.hd.start, x.hd.min, x.hd.prim, w⟩ : In) ∈ inL x := by simp [inL, hw]
    rw [h1] at h3
    have := (I.ok _ (List.mem_filter.1 h3).1).2
    exact this
theorem Inv.len (I : Inv hs keys L) : keys.length = L.length := by rw [I.keys, List.length_map]

/-! ### whose it is -/
theorem Inv.of1 (I : Inv hs keys L) {y : In} (hy : y ∈ L) : Of1 hs (ow y) y := by
  obtain ⟨x, hx, ht⟩ := I.has y hy
  obtain ⟨h1, _⟩ := I.own x hx
  have h2 : y ∈ inL x := by
    rw [h1]
    exact List.mem_filter.2 ⟨hy, eqT_iff.2 ht.symm⟩
  obtain ⟨w, _, rfl⟩ := List.mem_map.1 h2
  refine ⟨x, hx, ?_, I.tok hx, ?_⟩
  · cases hh : x.tx; rfl
  · show (_ : In) = In.mk ⟨x.tx.c, x.tx.n⟩ _ _ _ ⟨w.key, w.val, w.dead⟩
    rfl
theorem Inv.allR (I : Inv hs keys L) : AllR hs keys L := by
  refine ⟨I.len.symm, fun i h h2 => ?_⟩
  have e : keys[i] = kow L[i] := by
    have := I.keys
    subst this
    rw [List.getElem_map]
  rw [e]
  exact I.of1 (List.getElem_mem h2)

/-! ### Of -/
theorem getK_map (L : List In) (k : ByteArray) : getK (L.map kow) k = (ofL L k).map ow := by
  induction L with
  | nil => rfl
  | cons y L ih =>
    simp only [getK, ofL, List.map_cons, List.find?_cons, kow] at ih ⊢
    by_cases h : y.w.key = k
    · simp [h]
    · simp only [h, decide_false]
      exact ih
theorem Inv.of (I : Inv hs keys L) (k : ByteArray) : getK keys k = (ofL L k).map ow := by rw [I.keys, getK_map]
theorem of_mem {k : ByteArray} {y : In} (h : ofL L k = some y) : y ∈ L ∧ y.w.key = k := by
  have h1 := List.mem_of_find?_eq_some h
  have h2 := List.find?_some h
  exact ⟨h1, by simpa using h2⟩
theorem of_none {k : ByteArray} (h : ofL L k = none) : ∀ y ∈ L, y.w.key ≠ k := by
  intro y hy
  have := List.find?_eq_none.1 h y hy
  simpa using this
theorem of_some {k : ByteArray} {y : In} (hs : SrtI L) (hy : y ∈ L) (hk : y.w.key = k) : ofL L k = some y := by
  induction L with
  | nil => cases hy
  | cons z L ih =>
    obtain ⟨h1, h2⟩ := List.pairwise_cons.1 hs
    rw [ofL, List.find?_cons]
    rcases List.mem_cons.1 hy with rfl | hy
    · simp [hk]
    · have hne : z.w.key ≠ k := fun h => slt_ne (h1 y hy) (h.trans hk.symm)
      simp only [hne, decide_false]
      exact ih h2 hy

/-! ### By -/
theorem Inv.by_none (I : Inv hs keys L) {tx : Tx} (h : ∀ x ∈ hs, x.tx ≠ tx) : byL L tx = [] := by
  rw [byL, List.filter_eq_nil_iff]
  intro y hy he
  obtain ⟨x, hx, ht⟩ := I.has y hy
  exact h x hx (ht.trans (eqT_iff.1 he))
theorem Inv.by_some (I : Inv hs keys L) {x : Hold} (hx : x ∈ hs) : byL L x.tx ≠ [] := by
  obtain ⟨h1, h2⟩ := I.own x hx
  rw [← h1, inL]
  simpa using h2
theorem hold_dec (hs : List Hold) (tx : Tx) : (∀ x ∈ hs, x.tx ≠ tx) ∨ ∃ x ∈ hs, x.tx = tx := by
  by_cases h : ∃ x ∈ hs, x.tx = tx
  · exact .inr h
  · exact .inl fun x hx he => h ⟨x, hx, he⟩

/-! ### Cut -/
theorem cutKs_map : ∀ (l : List In) (L : List In), cutKs (L.map kow) l = (L.filter fun y => !(l.any fun z => decide (z.w.key = y.w.key))).map kow
  | [], L => by
    show L.map kow = _
    rw [List.filter_eq_self.2 (by intro y _; rfl)]
  | z :: l, L => by
    have ih := cutKs_map l (L.filter fun y => !decide (z.w.key = y.w.key))
    have e : cutK (L.map kow) z.w.key = (L.filter fun y => !decide (z.w.key = y.w.key)).map kow := by
      rw [cutK, List.filter_map]
      congr 1
      apply List.filter_congr
      intro y _
      simp [kow, eq_comm]
    show cutKs (cutK (L.map kow) z.w.key) l = _
    rw [e, ih, List.filter_filter]
    congr 1
    apply List.filter_congr
    intro y _
    simp only [List.any_cons, Bool.not_or, Bool.and_comm]
theorem key_inj (hs : SrtI L) {y z : In} (hy : y ∈ L) (hz : z ∈ L) (h : y.w.key = z.w.key) : y = z := by
  have h1 := of_some hs hy rfl
  have h2 := of_some hs hz h.symm
  rw [h1] at h2
  exact Option.some.inj h2
theorem Inv.cut {l1 l2 : List Hold} {x : Hold} (I : Inv (l1 ++ x :: l2) keys L) : Inv (l1 ++ l2) (cutKs keys (inL x)) (cutL L x.tx) := by
  have hsub : (l1 ++ l2).Sublist (l1 ++ x :: l2) := List.Sublist.append_left (List.sublist_cons_self _ _) _
  have hne : ∀ z ∈ l1 ++ l2, z.tx ≠ x.tx := by
    have := I.txs
    rw [List.pairwise_append, List.pairwise_cons] at this
    obtain ⟨h1, ⟨h2, h3⟩, h4⟩ := this
    intro z hz
    rcases List.mem_append.1 hz with hz | hz
    · exact h4 z hz x (by simp)
    · exact fun h => h2 z hz h.symm
  refine ⟨?_, I.srt.sublist List.filter_sublist, I.txs.sublist hsub, ?_, ?_, fun y hy => I.ok y (List.mem_filter.1 hy).1, fun z hz => I.fit z (hsub.subset hz)⟩
  · rw [I.keys, cutKs_map, (I.own x (by simp)).1]
    congr 1
    apply List.filter_congr
    intro y hy
    congr 1
    rw [Bool.eq_iff_iff, List.any_eq_true]
    constructor
    · rintro ⟨z, hz, he⟩
      obtain ⟨hz1, hz2⟩ := List.mem_filter.1 hz
      have := key_inj I.srt hz1 hy (by simpa using he)
      rw [← this]; exact hz2
    · intro h
      exact ⟨y, List.mem_filter.2 ⟨hy, h⟩, by simp⟩
  · intro z hz
    obtain ⟨h1, h2⟩ := I.own z (hsub.subset hz)
    refine ⟨?_, h2⟩
    rw [h1, byL, byL, cutL, List.filter_filter]
    apply List.filter_congr
    intro y _
    cases e : eqT y.tx z.tx with
    | false => rfl
    | true =>
      rw [eqT_iff] at e
      rw [e, eqT_no (hne z hz)]; rfl
  · intro y hy
    obtain ⟨hy1, hy2⟩ := List.mem_filter.1 hy
    obtain ⟨z, hz, he⟩ := I.has y hy1
    refine ⟨z, ?_, he⟩
    rcases List.mem_append.1 hz with hz | hz
    · simp [hz]
    · rcases List.mem_cons.1 hz with rfl | hz
      · rw [he, eqT_self] at hy2; cases hy2
      · simp [hz]
theorem cut_no {tx : Tx} (h : byL L tx = []) : cutL L tx = L := by
  rw [cutL, List.filter_eq_self]
  intro y hy
  cases e : eqT y.tx tx with
  | false => rfl
  | true =>
    have : y ∈ byL L tx := List.mem_filter.2 ⟨hy, e⟩
    rw [h] at this; cases this

/-! ### Raise -/
theorem maxS_nn {s : Sm} (h : s.nn) : maxS ⟨0, 0⟩ s = s := by
  obtain ⟨p, l⟩ := s
  obtain ⟨h1, h2⟩ := h
  dsimp only at h1 h2
  unfold maxS
  split
  · rfl
  · rename_i hn
    have : ¬ (orI [cmpI 0 p, cmpI 0 l] < 0) := by simpa [Sm.lt] using hn
    have hp : p = 0 := by
      rcases Int.lt_or_le 0 p with h | h
      · exfalso; apply this
        simp [orI, cmpI, h]
      · omega
    subst hp
    have hl : l = 0 := by
      rcases Int.lt_or_le 0 l with h | h
      · exfalso; apply this
        simp [orI, cmpI, h]
      · omega
    subst hl
    rfl
theorem raise_key (tx : Tx) (s : Sm) (y : In) : (if eqT y.tx tx then { y with min := maxS y.min s } else y : In).w = y.w ∧ (if eqT y.tx tx then { y with min := maxS y.min s } else y : In).tx = y.tx := by
  split <;> exact ⟨rfl, rfl⟩
theorem maxS_ok {a b : Sm} (ha : a.nn) (hb : b.nn) : (maxS a b).nn := by unfold maxS; split <;> assumption
theorem Inv.raise {l1 l2 : List Hold} {x : Hold} {s : Sm} (hs : s.nn) (I : Inv (l1 ++ x :: l2) keys L) : Inv (l1 ++ x.raise s :: l2) keys (raiseL L x.tx s) := by
  have hne : ∀ z ∈ l1 ++ l2, z.tx ≠ x.tx := by
    have := I.txs
    rw [List.pairwise_append, List.pairwise_cons] at this
    obtain ⟨h1, ⟨h2, h3⟩, h4⟩ := this
    intro z hz
    rcases List.mem_append.1 hz with hz | hz
    · exact h4 z hz x (by simp)
    · exact fun h => h2 z hz h.symm
  have hby : ∀ tx, byL (raiseL L x.tx s) tx = (byL L tx).map fun y => if eqT y.tx x.tx then { y with min := maxS y.min s } else y := by
    intro tx
    rw [byL, raiseL, List.filter_map]
    congr 1
    apply List.filter_congr
    intro y _
    show eqT (if eqT y.tx x.tx then { y with min := maxS y.min s } else y : In).tx tx = _
    rw [(raise_key x.tx s y).2]
  have hmem : ∀ z ∈ l1 ++ x.raise s :: l2, z = x.raise s ∨ (z ∈ l1 ++ l2 ∧ z ∈ l1 ++ x :: l2) := by
    intro z hz
    rcases List.mem_append.1 hz with hz | hz
    · exact .inr ⟨by simp [hz], by simp [hz]⟩
    · rcases List.mem_cons.1 hz with hz | hz
      · exact .inl hz
      · exact .inr ⟨by simp [hz], by simp [hz]⟩
  refine ⟨?_, ?_, ?_, ?_, ?_, ?_, ?_⟩
  · rw [I.keys, raiseL, List.map_map]
    apply List.map_congr_left
    intro y _
    show kow y = kow (if eqT y.tx x.tx then { y with min := maxS y.min s } else y : In)
    obtain ⟨h1, h2⟩ := raise_key x.tx s y
    simp only [kow, ow, h1, h2]
  · rw [SrtI, raiseL, List.pairwise_map]
    refine I.srt.imp ?_
    intro a b hab
    rw [(raise_key x.tx s a).1, (raise_key x.tx s b).1]
    exact hab
  · have h1 := I.txs
    rw [List.pairwise_append, List.pairwise_cons] at h1 ⊢
    obtain ⟨a1, ⟨a2, a3⟩, a4⟩ := h1
    refine ⟨a1, ⟨a2, a3⟩, ?_⟩
    intro a ha b hb
    rcases List.mem_cons.1 hb with rfl | hb
    · exact a4 a ha x (by simp)
    · exact a4 a ha b (by simp [hb])
  · intro z hz
    rcases hmem z hz with rfl | ⟨hz1, hz2⟩
    · obtain ⟨h1, h2⟩ := I.own x (by simp)
      refine ⟨?_, h2⟩
      have hmin := maxS_nn (I.mnn (x := x) (by simp))
      show inL (x.raise s) = byL (raiseL L x.tx s) x.tx
      rw [hby, ← h1, inL, inL, List.map_map]
      apply List.map_congr_left
      intro w _
      show (_ : In) = if eqT x.tx x.tx then _ else _
      rw [eqT_self, if_pos rfl]
      simp only [Hold.raise, hmin]
    · obtain ⟨h1, h2⟩ := I.own z hz2
      refine ⟨?_, h2⟩
      rw [hby, ← h1]
      symm
      rw [List.map_congr_left (g := id), List.map_id]
      intro y hy
      rw [h1] at hy
      have he := eqT_iff.1 (List.mem_filter.1 hy).2
      rw [he, eqT_no (hne z hz1)]; rfl
  · intro y hy
    obtain ⟨y0, hy0, rfl⟩ := List.mem_map.1 hy
    obtain ⟨z, hz, he⟩ := I.has y0 hy0
    rw [(raise_key x.tx s y0).2]
    rcases List.mem_append.1 hz with hz | hz
    · exact ⟨z, by simp [hz], he⟩
    · rcases List.mem_cons.1 hz with rfl | hz
      · exact ⟨z.raise s, by simp, he⟩
      · exact ⟨z, by simp [hz], he⟩
  · intro y hy
    obtain ⟨y0, hy0, rfl⟩ := List.mem_map.1 hy
    obtain ⟨h1, h2⟩ := I.ok y0 hy0
    rw [(raise_key x.tx s y0).2]
    refine ⟨h1, ?_⟩
    split
    · exact maxS_ok h2 hs
    · exact h2
  · intro z hz
    rcases hmem z hz with rfl | ⟨_, hz2⟩
    · exact I.fit x (by simp)
    · exact I.fit z hz2

/-! ### Lay -/
theorem put_perm : ∀ (L : List In) (x : In), (putL L x).Perm (x :: L)
  | [], x => List.Perm.refl _
  | y :: L, x => by
    simp only [putL]
    split
    · exact ((put_perm L x).cons y).trans (List.Perm.swap x y L)
    · exact List.Perm.refl _
theorem put_mem {y x : In} : y ∈ putL L x ↔ y = x ∨ y ∈ L := by rw [(put_perm L x).mem_iff, List.mem_cons]
theorem put_srt : ∀ {L : List In} {x : In}, SrtI L → (∀ y ∈ L, y.w.key ≠ x.w.key) → SrtI (putL L x)
  | [], x, _, _ => by simp [putL, SrtI]
  | y :: L, x, hs, hn => by
    obtain ⟨h1, h2⟩ := List.pairwise_cons.1 hs
    simp only [putL]
    split
    · rename_i hlt
      refine List.pairwise_cons.2 ⟨fun z hz => ?_, put_srt h2 fun z hz => hn z (by simp [hz])⟩
      rcases put_mem.1 hz with rfl | hz
      · exact hlt
      · exact h1 z hz
    · rename_i hlt
      have hxy : slt x.w.key y.w.key = true := by
        rcases slt_tri x.w.key y.w.key with h | h | h
        · exact h
        · exact absurd h.symm (hn y (by simp))
        · exact absurd h hlt
      refine List.pairwise_cons.2 ⟨fun z hz => ?_, hs⟩
      rcases List.mem_cons.1 hz with rfl | hz
      · exact hxy
      · exact slt_trans hxy (h1 z hz)
theorem put_kow : ∀ {L : List In} {x : In}, (∀ y ∈ L, y.w.key ≠ x.w.key) → insK (L.map kow) x.w.key (ow x) = (putL L x).map kow
  | [], x, _ => rfl
  | y :: L, x, hn => by
    have ih := put_kow (L := L) (x := x) fun z hz => hn z (by simp [hz])
    simp only [putL, List.map_cons, insK, kow] at ih ⊢
    by_cases hlt : slt y.w.key x.w.key = true
    · rw [if_neg (by rw [slt_asymm hlt]; simp), if_pos hlt, if_pos hlt, ih]; rfl
    · have hxy : slt x.w.key y.w.key = true := by
        rcases slt_tri x.w.key y.w.key with h | h | h
        · exact h
        · exact absurd h.symm (hn y (by simp))
        · exact absurd h hlt
      rw [if_pos hxy, if_neg hlt]; rfl

def insW (tx : Tx) (keys : KL) (ws : List Wr) : KL := ws.foldl (fun k w => insK k w.key ⟨tx.c, tx.n, w.key, w.val, w.dead⟩) keys
def Dist (ws : List Wr) : Prop := ws.Pairwise fun a b => a.key ≠ b.key
theorem lay_all (tx : Tx) (hd : Hd) : ∀ (ws : List Wr) (L : List In), SrtI L → (∀ w ∈ ws, ∀ y ∈ L, y.w.key ≠ w.key) → Dist ws →
    SrtI (layF tx hd L ws) ∧ insW tx (L.map kow) ws = (layF tx hd L ws).map kow ∧ (layF tx hd L ws).Perm (ws.map (mkI tx hd) ++ L)
  | [], L, hs, _, _ => ⟨hs, rfl, List.Perm.refl _⟩
  | w :: ws, L, hs, hn, hd' => by
    obtain ⟨d1, d2⟩ := List.pairwise_cons.1 hd'
    have hnw : ∀ y ∈ L, y.w.key ≠ (mkI tx hd w).w.key := fun y hy => hn w (by simp) y hy
    have h1 := put_srt hs hnw
    have h2 : ∀ v ∈ ws, ∀ y ∈ putL L (mkI tx hd w), y.w.key ≠ v.key := by
      intro v hv y hy
      rcases put_mem.1 hy with rfl | hy
      · exact d1 v hv
      · exact hn v (by simp [hv]) y hy
    obtain ⟨i1, i2, i3⟩ := lay_all tx hd ws (putL L (mkI tx hd w)) h1 h2 d2
    refine ⟨i1, ?_, ?_⟩
    · rw [← put_kow hnw] at i2
      exact i2
    · refine i3.trans ?_
      rw [List.map_cons, List.cons_append]
      exact ((put_perm L _).append_left _).trans List.perm_middle
theorem dist_srt {ws ws' : List Wr} (hp : ws'.Perm ws) (hd : Dist ws) (hs : ws'.Pairwise fun a b => slt b.key a.key = false) : ws'.Pairwise fun a b => slt a.key b.key = true := by
  have hd2 : ws'.Pairwise (fun a b => a.key ≠ b.key) := (hp.pairwise_iff (R := fun (a b : Wr) => a.key ≠ b.key) (fun {x y} (h : x.key ≠ y.key) => h.symm)).2 hd
  have := hs.and hd2
  refine this.imp ?_
  rintro a b ⟨h1, h2⟩
  rcases slt_tri a.key b.key with h | h | h
  · exact h
  · exact absurd h h2
  · rw [h1] at h; cases h
theorem Inv.lay (I : Inv hs keys L) {tx : Tx} {hd : Hd} {ws ws' : List Wr} {b : Nat} {v : Value} (htx : tx.ok) (hmin : hd.min.nn) (h0 : ws ≠ []) (h16 : ws.length ≤ 16) (hby : byL L tx = []) (hn : ∀ w ∈ ws, ∀ y ∈ L, y.w.key ≠ w.key) (hd' : Dist ws)
    (hp : ws'.Perm ws) (hs' : ws'.Pairwise fun a b => slt b.key a.key = false) : Inv (hs ++ [⟨tx, b, hd, ws', v⟩]) (insW tx keys ws) (layF tx hd L ws) := by
  obtain ⟨h1, h2, h3⟩ := lay_all tx hd ws L I.srt hn hd'
  have hne : ∀ x ∈ hs, x.tx ≠ tx := by
    intro x hx he
    have := I.by_some hx
    rw [he, hby] at this
    exact this rfl
  refine ⟨by rw [I.keys, h2], h1, ?_, ?_, ?_, ?_, ?_⟩
  · rw [List.pairwise_append]
    refine ⟨I.txs, List.pairwise_singleton _ _, ?_⟩
    intro x hx y hy
    simp only [List.mem_singleton] at hy
    subst hy
    exact hne x hx
  · intro x hx
    rcases List.mem_append.1 hx with hx | hx
    · obtain ⟨a1, a2⟩ := I.own x hx
      refine ⟨?_, a2⟩
      have hP : (byL (layF tx hd L ws) x.tx).Perm (byL L x.tx) := by
        refine (h3.filter _).trans ?_
        rw [List.filter_append]
        have : (ws.map (mkI tx hd)).filter (fun y => eqT y.tx x.tx) = [] := by
          rw [List.filter_eq_nil_iff]
          intro y hy he
          obtain ⟨w, _, rfl⟩ := List.mem_map.1 hy
          exact hne x hx (eqT_iff.1 he).symm
        rw [this]
        exact List.Perm.refl _
      rw [a1]
      refine List.Perm.eq_of_pairwise (le := fun (a b : In) => slt a.w.key b.w.key = true) ?_ (I.srt.sublist List.filter_sublist) (h1.sublist List.filter_sublist) hP.symm
      intro a b _ _ hab hba
      rw [slt_asymm hab] at hba; cases hba
    · simp only [List.mem_singleton] at hx
      subst hx
      refine ⟨?_, fun h => h0 (by have h' : ws' = [] := h; subst h'; exact (List.Perm.nil_eq hp).symm)⟩
      have hP : (byL (layF tx hd L ws) tx).Perm (ws.map (mkI tx hd)) := by
        refine (h3.filter _).trans ?_
        rw [List.filter_append]
        have e1 : L.filter (fun y => eqT y.tx tx) = [] := hby
        rw [e1, List.append_nil, List.filter_eq_self.2]
        intro y hy
        obtain ⟨w, _, rfl⟩ := List.mem_map.1 hy
        exact eqT_self tx
      show ws'.map (mkI tx hd) = _
      refine List.Perm.eq_of_pairwise (le := fun (a b : In) => slt a.w.key b.w.key = true) ?_ ?_ (h1.sublist List.filter_sublist) ((hp.map _).trans hP.symm)
      · intro a b _ _ hab hba
        rw [slt_asymm hab] at hba; cases hba
      · rw [List.pairwise_map]
        exact dist_srt hp hd' hs'
  · intro y hy
    rcases List.mem_append.1 (h3.mem_iff.1 hy) with hy | hy
    · obtain ⟨w, _, rfl⟩ := List.mem_map.1 hy
      exact ⟨⟨tx, b, hd, ws', v⟩, by simp, rfl⟩
    · obtain ⟨x, hx, he⟩ := I.has y hy
      exact ⟨x, by simp [hx], he⟩
  · intro y hy
    rcases List.mem_append.1 (h3.mem_iff.1 hy) with hy | hy
    · obtain ⟨w, _, rfl⟩ := List.mem_map.1 hy
      exact ⟨htx, hmin⟩
    · exact I.ok y hy
  · intro x hx
    rcases List.mem_append.1 hx with hx | hx
    · exact I.fit x hx
    · simp only [List.mem_singleton] at hx
      subst hx
      show ws'.length ≤ 16
      rw [hp.length_eq]; exact h16
end
end Go.Proofs.Ythcbefkgfhokoaa
