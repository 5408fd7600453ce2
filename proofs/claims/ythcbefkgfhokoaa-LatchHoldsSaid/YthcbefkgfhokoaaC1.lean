import Derived.Test.YthcbefkgfhokoaaC0
/- The table's contracts over the plain list. -/
namespace Go.Proofs.Ythcbefkgfhokoaa
open Go Go.Dv
open Classical
set_option maxRecDepth 100000

section
variable {P : Program} {f : FuncId} {args : List Value} {pre : List HP} {post post' : Value → List HP → Prop}
theorem sep_head {x y : HP} {l : List HP} {h : PH} (hs : Sep (x :: l) h) (hxy : ∀ h, x h → y h) : Sep (y :: l) h := by
  obtain ⟨h1, h2, d, u, hx, hr⟩ := hs
  exact ⟨h1, h2, d, u, hxy _ hx, hr⟩
theorem fsp_open {α : Type} {x : HP} {φ : α → Prop} {z : α → HP} (ho : ∀ h, x h → ∃ y, φ y ∧ z y h) (S : ∀ y, φ y → Fsp P f args (z y :: pre) post) : Fsp P f args (x :: pre) post := by
  intro gl F w hG hs
  obtain ⟨h1, h2, d, u, hx, hr⟩ := hs
  obtain ⟨y, hy, hz⟩ := ho h1 hx
  exact S y hy gl F w hG ⟨h1, h2, d, u, hz, hr⟩
theorem fsp_post (S : Fsp P f args pre post) (hp : ∀ v aa', post v aa' → ∃ aa'', post' v aa'' ∧ ∀ F h, Sep (aa' ++ [F]) h → Sep (aa'' ++ [F]) h) : Fsp P f args pre post' := by
  intro gl F w hG hs
  refine Calls.mono (S gl F w hG hs) ?_
  rintro x w' ⟨v, rfl, hG', aa', h1, h2⟩
  obtain ⟨aa'', h3, h4⟩ := hp v aa' h1
  exact ⟨v, rfl, hG', aa'', h3, h4 F _ h2⟩
end

def TabL (t : Nat) (L : List In) : HP := fun h => ∃ x : List Hold × KL, Inv x.1 x.2 L ∧ TabA t x.1 x.2 h
section
variable {L : List In} {f : FuncId} {args : List Value} {pre : List HP} {post : Value → List HP → Prop}
theorem fsp_tab {t : Nat} (S : ∀ hs keys, Inv hs keys L → Fsp Try.prog f args (TabA t hs keys :: pre) post) : Fsp Try.prog f args (TabL t L :: pre) post :=
  fsp_open (x := TabL t L) (φ := fun x : List Hold × KL => Inv x.1 x.2 L) (z := fun x => TabA t x.1 x.2) (fun _ h => h) fun x hx => S x.1 x.2 hx
theorem tabL_mk {t : Nat} {hs : List Hold} {keys : KL} (I : Inv hs keys L) : ∀ h, TabA t hs keys h → TabL t L h := fun _ h => ⟨(hs, keys), I, h⟩
end

theorem New_L : Fsp Try.prog 9 [] [] fun u aa' => ∃ t, u = .pointer (some ⟨t, 0, none⟩) ∧ aa' = [TabL t []] := by
  refine fsp_post LNew_spec ?_
  rintro v _ ⟨t, rfl, rfl⟩
  exact ⟨_, ⟨t, rfl, rfl⟩, fun F h hs => sep_head hs (tabL_mk inv_nil)⟩

def ofR : Option In → Value
  | none => .tuple #[zIn.V, .bool false]
  | some y => .tuple #[y.V, .bool true]
theorem Of_L (t : Nat) (L : List In) (k : ByteArray) : Fsp Try.prog 17 [.pointer (some ⟨t, 0, none⟩), .string k] [TabL t L] fun u aa' => u = ofR (ofL L k) ∧ aa' = [TabL t L] := by
  refine fsp_tab fun hs keys I => ?_
  have hg := I.of k
  cases hk : ofL L k with
  | none =>
    rw [hk] at hg
    refine fsp_post (Of_none t hs keys k hg) ?_
    rintro v _ ⟨rfl, rfl⟩
    exact ⟨_, ⟨rfl, rfl⟩, fun F h hs => sep_head hs (tabL_mk I)⟩
  | some y =>
    rw [hk] at hg
    obtain ⟨x, hx, ht, hok, he⟩ := I.of1 (of_mem hk).1
    refine fsp_post (Of_some t hs keys k (ow y) x hg hx ht hok) ?_
    rintro v _ ⟨rfl, rfl⟩
    rw [← he]
    exact ⟨_, ⟨rfl, rfl⟩, fun F h hs => sep_head hs (tabL_mk I)⟩

theorem By_L (t : Nat) (L : List In) (tx : Tx) (hok : tx.ok) : Fsp Try.prog 13 [.pointer (some ⟨t, 0, none⟩), tx.V] [TabL t L] fun u aa' => aa' = [TabL t L, OwS 41 10 u (byL L tx).length (ics (byL L tx)).flatten] := by
  refine fsp_tab fun hs keys I => ?_
  rcases hold_dec hs tx with hn | ⟨x, hx, rfl⟩
  · refine fsp_post (By_none t hs keys tx hok hn) ?_
    rintro v _ ⟨rfl, rfl⟩
    rw [I.by_none hn]
    exact ⟨_, rfl, fun F h hs => sep_head hs (tabL_mk I)⟩
  · obtain ⟨h1, h2⟩ := I.own x hx
    have := I.fit x hx
    refine fsp_post (By_some t hs keys x hx hok (List.length_pos_iff.2 h2) (by omega)) ?_
    rintro v _ rfl
    rw [h1]
    exact ⟨_, rfl, fun F h hs => sep_head hs (tabL_mk I)⟩

theorem Cut_L (t : Nat) (L : List In) (tx : Tx) (hok : tx.ok) : Fsp Try.prog 14 [.pointer (some ⟨t, 0, none⟩), tx.V] [TabL t L] fun u aa' => aa' = [TabL t (cutL L tx), OwS 41 10 u (byL L tx).length (ics (byL L tx)).flatten] := by
  refine fsp_tab fun hs keys I => ?_
  rcases hold_dec hs tx with hn | ⟨x, hx, rfl⟩
  · refine fsp_post (LCut_none t hs keys tx hok hn) ?_
    rintro v _ ⟨rfl, rfl⟩
    rw [cut_no (I.by_none hn), I.by_none hn]
    exact ⟨_, rfl, fun F h hs => sep_head hs (tabL_mk I)⟩
  · obtain ⟨h1, h2⟩ := I.own x hx
    have := I.fit x hx
    obtain ⟨l1, l2, rfl⟩ := List.append_of_mem hx
    have hne : ∀ z ∈ l1 ++ l2, z.tx ≠ x.tx := by
      have := I.txs
      rw [List.pairwise_append, List.pairwise_cons] at this
      obtain ⟨h1, ⟨h2, h3⟩, h4⟩ := this
      intro z hz
      rcases List.mem_append.1 hz with hz | hz
      · exact h4 z hz x (by simp)
      · exact fun h => h2 z hz h.symm
    refine fsp_post (LCut_some t l1 l2 keys x hok hne (List.length_pos_iff.2 h2) (by omega)) ?_
    rintro v _ rfl
    have I2 := I.cut
    rw [h1] at I2 ⊢
    exact ⟨_, rfl, fun F h hs => sep_head hs (tabL_mk I2)⟩

theorem Raise_L (t : Nat) (L : List In) (tx : Tx) (s : Sm) (hok : tx.ok) (hs0 : s.nn) : Fsp Try.prog 16 [.pointer (some ⟨t, 0, none⟩), tx.V, s.V] [TabL t L] fun u aa' =>
    u = .bool (!(byL L tx).isEmpty && s.ok) ∧ aa' = [TabL t (if !(byL L tx).isEmpty && s.ok then raiseL L tx s else L)] := by
  refine fsp_tab fun hs keys I => ?_
  rcases hold_dec hs tx with hn | ⟨x, hx, rfl⟩
  · refine fsp_post (Raise_none t hs keys tx s hok hn) ?_
    rintro v _ ⟨rfl, rfl⟩
    rw [I.by_none hn]
    exact ⟨_, ⟨rfl, rfl⟩, fun F h hs => sep_head hs (tabL_mk I)⟩
  · have h1 := I.by_some hx
    obtain ⟨l1, l2, rfl⟩ := List.append_of_mem hx
    have he : (byL L x.tx).isEmpty = false := by
      cases h : byL L x.tx with
      | nil => exact absurd h h1
      | cons => rfl
    refine fsp_post (Raise_some t l1 l2 keys x s hok) ?_
    rintro v _ ⟨rfl, rfl⟩
    rw [he]
    refine ⟨_, ⟨rfl, rfl⟩, fun F h hs => sep_head hs ?_⟩
    cases hsk : s.ok with
    | true => exact tabL_mk (I.raise hs0)
    | false => exact tabL_mk I

theorem All_L (t : Nat) (L : List In) (hl : L.length ≤ 1073741824) : Fsp Try.prog 11 [.pointer (some ⟨t, 0, none⟩)] [TabL t L] fun u aa' => aa' = [TabL t L, OwS 41 10 u L.length (ics L).flatten] := by
  refine fsp_tab fun hs keys I => ?_
  refine fsp_post (All_spec t hs keys L I.allR (by rw [I.len]; exact hl)) ?_
  rintro v _ rfl
  exact ⟨_, rfl, fun F h hs => sep_head hs (tabL_mk I)⟩

def fstL (L : List In) (f o : ByteArray) (s : Sm) (but : List Tx) : Option In := L.find? fun y => inR f o y.w.key && stands s but y
theorem rng_kow (L : List In) (f o : ByteArray) : rngL f o (L.map kow) = (L.filter fun y => inR f o y.w.key).map fun y => y.w.key := by
  rw [rngL, List.map_map, List.filter_map]
  rfl
theorem First_L (R : HP) (t : Nat) (L : List In) (f o : ByteArray) (s : Sm) (bv : Value) (but : List Tx) (hb : RdS R 2 bv (but.map Tx.cells)) (hbl : but.length < 9223372036854775808) (hl : L.length ≤ 1073741824) :
    Fsp Try.prog 12 [.pointer (some ⟨t, 0, none⟩), .string f, .string o, s.V, bv] [TabL t L, R] fun u aa' => u = ofR (fstL L f o s but) ∧ aa' = [TabL t L, R] := by
  refine fsp_tab fun hs keys I => ?_
  have hg : ∀ k ∈ rngL f o keys, ∃ o', getK keys k = some o' ∧ Of1 hs o' ((ofL L k).getD zIn) := by
    intro k hk
    rw [I.keys, rng_kow] at hk
    obtain ⟨y, hy, rfl⟩ := List.mem_map.1 hk
    have hy' := (List.mem_filter.1 hy).1
    have h1 := of_some I.srt hy' rfl
    refine ⟨ow y, ?_, ?_⟩
    · rw [I.of, h1]; rfl
    · rw [h1]; exact I.of1 hy'
  have hmap : (rngL f o keys).map (fun k => (ofL L k).getD zIn) = L.filter fun y => inR f o y.w.key := by
    rw [I.keys, rng_kow, List.map_map]
    rw [List.map_congr_left (g := id), List.map_id]
    intro y hy
    show (ofL L y.w.key).getD zIn = y
    rw [of_some I.srt (List.mem_filter.1 hy).1 rfl]; rfl
  refine fsp_post (First_spec R t hs keys f o s bv but (fun k => (ofL L k).getD zIn) hb hbl (by rw [I.len]; exact hl) hg) ?_
  rintro v _ ⟨rfl, rfl⟩
  refine ⟨_, ⟨?_, rfl⟩, fun F h hs => sep_head hs (tabL_mk I)⟩
  have e : fstL L f o s but = (L.filter fun y => inR f o y.w.key).find? (stands s but) := by
    rw [List.find?_filter, fstL]
    congr 1
    funext y
    simp
  rw [hmap, e]
  cases (L.filter fun y => inR f o y.w.key).find? (stands s but) <;> rfl
end Go.Proofs.Ythcbefkgfhokoaa
