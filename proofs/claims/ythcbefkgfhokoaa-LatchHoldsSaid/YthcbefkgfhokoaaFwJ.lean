import Derived.Test.YthcbefkgfhokoaaFwI
import Derived.Deep.Slices
import Derived.ChangeStays
import Derived.JoinedCond
import Derived.ChangeSame
/- What an argument's reading gives; a law's row from its contract. -/
namespace Go.Dv
open Go Go.ChangeShapes Go.Deep

/-! ### shapes of plain data -/
inductive Sh where
  | int (k : IntKind)
  | str
  | bool
  | sl (n : Nat) (e : Sh)
  | st (es : List Sh)
def shL (f : TypeId → Option Sh) : List Field → Option (List Sh)
  | [] => some []
  | x :: xs => match f x.type, shL f xs with
    | some s, some r => some (s :: r)
    | _, _ => none
def shOf (P : Program) : Nat → TypeId → Option Sh
  | 0, _ => none
  | d + 1, t => match P.underlying t with
    | some (.int k) => some (.int k)
    | some .string => some .str
    | some .bool => some .bool
    | some (.slice e) => if 0 < P.cellsOf e then (shOf P d e).map (.sl (P.cellsOf e)) else none
    | some (.struct fs) => (shL (shOf P d) fs.toList).map .st
    | _ => none
mutual
def RdSh (R : HP) : Sh → List Value → Prop
  | .int k, cs => ∃ n, cs = [.int k n] ∧ (Lit.int k n).wf = true
  | .str, cs => ∃ s : ByteArray, cs = [.string s] ∧ s.size ≤ maxLen
  | .bool, cs => ∃ b, cs = [.bool b]
  | .sl n e, cs => ∃ v xs, cs = [v] ∧ RdS R n v xs ∧ xs.length ≤ maxLen ∧ ∀ x ∈ xs, RdSh R e x
  | .st es, cs => RdShs R es cs
def RdShs (R : HP) : List Sh → List Value → Prop
  | [], cs => cs = []
  | e :: es, cs => ∃ c1 c2, cs = c1 ++ c2 ∧ RdSh R e c1 ∧ RdShs R es c2
end
def Old (w : World) : HP := fun h => ∀ b o, hw w b = some o → h b = some o

section
variable {H : Type} {enc : TypeId × Value → H} {P : Program} {w : World} {sp : Nat → Bool} {held : Bool}

theorem cell_block {a : Addr} {v : Value} (h : w.cell? a = some v) : a.spot = none ∧ ∃ c T fz, hw w a.block = some (.cells c T fz) ∧ c[a.off]? = some v := by
  unfold World.cell? at h
  split at h
  · rename_i c T fz hb
    split at h
    · cases h
    · rename_i hs
      exact ⟨by simpa using hs, c, T, fz, hb, h⟩
  · cases h

theorem list_choose {α β : Type} {f : β → α} {p : β → Prop} : ∀ {xs : List α}, (∀ x ∈ xs, ∃ y, x = f y ∧ p y) → ∃ ys : List β, xs = ys.map f ∧ ∀ y ∈ ys, p y
  | [], _ => ⟨[], rfl, by simp⟩
  | x :: xs, h => by
    obtain ⟨y, rfl, hy⟩ := h x (by simp)
    obtain ⟨ys, rfl, hys⟩ := list_choose (xs := xs) fun z hz => h z (by simp [hz])
    exact ⟨y :: ys, rfl, by simpa using ⟨hy, hys⟩⟩

theorem rds_old {a : Addr} {len cap k : Nat} {X : Nat → List Value} (hk : 0 < k) (hx : ∀ i, i < len → w.cells? 0 (a.add (i * k)) k = some (X i)) :
    RdS (Old w) k (.slice (some a) len cap) ((List.range len).map X) := by
  have hX : ∀ i, i < len → (X i).length = k ∧ ∀ j, j < k → w.cell? (a.add (i * k + j)) = (X i)[j]? := by
    intro i hi
    obtain ⟨_, h1, h2⟩ := World.cells?_some (hx i hi)
    exact ⟨h1, fun j hj => by rw [← add_add]; exact h2 j hj⟩
  refine ⟨?_, ?_⟩
  · intro x hx
    obtain ⟨i, hi, rfl⟩ := List.mem_map.1 hx
    exact (hX i (List.mem_range.1 hi)).1
  · rcases Nat.eq_zero_or_pos len with rfl | hl
    · exact .inl ⟨rfl, _, _, rfl⟩
    · obtain ⟨h1, h2⟩ := hX 0 hl
      have h3 := h2 0 hk
      have h4 : 0 < (X 0).length := by omega
      rw [List.getElem?_eq_getElem h4] at h3
      have e0 : a.add (0 * k + 0) = a := by simp [Addr.add]
      rw [e0] at h3
      obtain ⟨hs, c, T, fz, hb, _⟩ := cell_block h3
      obtain ⟨ab, ao, asp⟩ := a
      simp only at hs hb
      subst hs
      refine .inr ⟨ab, ao, cap, by simp, fun h hh => ⟨c, T, fz, hh _ _ hb, ?_⟩⟩
      have hcell : ∀ i, i < len → ∀ j, j < k → c.toList[ao + (i * k + j)]? = (X i)[j]? := by
        intro i hi j hj
        have := (hX i hi).2 j hj
        rw [add_none, cell_hw hb] at this
        simpa using this
      have hall : ∀ x ∈ (List.range len).map X, x.length = k := by
        intro x hx
        obtain ⟨i, hi, rfl⟩ := List.mem_map.1 hx
        exact (hX i (List.mem_range.1 hi)).1
      have hfl : ((List.range len).map X).flatten.length = len * k := by rw [flat_len hall]; simp
      rw [List.length_map, List.length_range]
      apply List.ext_getElem?
      intro t
      rw [List.getElem?_take]
      by_cases ht : t < len * k
      · rw [if_pos ht, List.getElem?_drop]
        have hq : t / k < len := by rw [Nat.div_lt_iff_lt_mul hk]; exact ht
        have hm : t % k < k := Nat.mod_lt _ hk
        have hdm : t / k * k + t % k = t := by rw [Nat.mul_comm]; exact Nat.div_add_mod t k
        have h5 := hcell (t / k) hq (t % k) hm
        rw [hdm] at h5
        rw [h5]
        have hi : ((List.range len).map X)[t / k]? = some (X (t / k)) := by simp [hq]
        obtain ⟨h6, h7⟩ := flat_at hall hi
        rw [← h6, List.getElem?_take, if_pos hm, List.getElem?_drop, hdm]
      · rw [if_neg ht, List.getElem?_eq_none (by omega)]

theorem rdsh_of (hl : laidOutB P = true) : ∀ (d : Nat) (t : TypeId) (s : Sh) (fuel : Nat) (cs : List Value) (x : DataW H × List MemPlace), t < P.types.size → shOf P d t = some s →
    DataW.trod enc P w 0 sp held fuel t cs = some x → RdSh (Old w) s cs := by
  intro d
  induction d with
  | zero => intro t s fuel cs x _ h; cases h
  | succ d ih =>
    intro t s fuel cs x hts h hx
    simp only [shOf] at h
    split at h
    · rename_i k hu
      simp only [Option.some.injEq] at h; subst h
      obtain ⟨n, h1, _, h2⟩ := DataW.trod_int hu hx
      exact ⟨n, h1, h2⟩
    · rename_i hu
      simp only [Option.some.injEq] at h; subst h
      obtain ⟨n, h1, _, h2⟩ := DataW.trod_string hu hx
      exact ⟨n, h1, h2⟩
    · rename_i hu
      simp only [Option.some.injEq] at h; subst h
      obtain ⟨n, h1, _⟩ := DataW.trod_bool hu hx
      exact ⟨n, h1⟩
    · rename_i e hu
      split at h
      · rename_i hpos
        simp only [Option.map_eq_some_iff] at h
        obtain ⟨s', hs', rfl⟩ := h
        have hte : e < P.types.size := kid_slice hl hts hu
        rcases open_slice hu hx with ⟨rfl, _⟩ | ⟨a, len, cap, m, n, D, Pl, rfl, _, hlc, hcm, hm, _, hel⟩
        · exact ⟨_, [], rfl, ⟨by simp, .inl ⟨rfl, _, _, rfl⟩⟩, by simp, by simp⟩
        · have hlm : len ≤ m := by rw [hm]; split <;> omega
          obtain ⟨X, hX⟩ := choose_lt (n := len) (α := List Value) (p := fun i c => w.cells? 0 (a.add (i * P.cellsOf e)) (P.cellsOf e) = some c ∧ DataW.trod enc P w 0 sp held n e c = some (D i, Pl i))
            (fun i hi => hel i (by omega))
          refine ⟨_, (List.range len).map X, rfl, rds_old hpos fun i hi => (hX i hi).1, by simp; omega, ?_⟩
          intro x hx
          obtain ⟨i, hi, rfl⟩ := List.mem_map.1 hx
          exact ih e s' n (X i) _ hte hs' (hX i (List.mem_range.1 hi)).2
      · cases h
    · rename_i fs hu
      simp only [Option.map_eq_some_iff] at h
      obtain ⟨ss, hss, rfl⟩ := h
      obtain ⟨xs, n, _, _, hlen, hxl, hat⟩ := DataW.trod_struct hu hx
      obtain ⟨hk1, hk2, hk3⟩ := kid_struct hl hts hu
      show RdShs (Old w) ss cs
      have key : ∀ (gs : List Field) (ss : List Sh) (j : Nat), fs.toList.drop j = gs → shL (shOf P d) gs = some ss → ((cs.drop ((fs.toList.take j).map fun f => P.cellsOf f.type).sum).length = (gs.map fun f => P.cellsOf f.type).sum) →
          RdShs (Old w) ss (cs.drop ((fs.toList.take j).map fun f => P.cellsOf f.type).sum) := by
        intro gs
        induction gs with
        | nil =>
          intro ss j _ h1 h2
          simp only [shL, Option.some.injEq] at h1; subst h1
          exact List.length_eq_zero_iff.1 (by simpa using h2)
        | cons f gs ihg =>
          intro ss j hj h1 h2
          simp only [shL] at h1
          split at h1
          · rename_i s r hs hr
            simp only [Option.some.injEq] at h1; subst h1
            have hjl : j < fs.toList.length := by
              rcases Nat.lt_or_ge j fs.toList.length with h | h
              · exact h
              · rw [List.drop_eq_nil_of_le h] at hj; cases hj
            have hfj : fs.toList[j]? = some f := by
              have := congrArg (·[0]?) hj
              simpa using this
            have hfj' : fs[j]? = some f := by simpa using hfj
            have hfm : f ∈ fs.toList := List.mem_of_getElem? hfj
            have hoff := hk3 j f hfj
            have hx1 : j < xs.length := by rw [hxl]; simpa using hjl
            have htr := hat j f hfj'
            rw [List.getElem?_eq_getElem hx1, hoff] at htr
            have hr1 := ih f.type s n _ _ (hk1 f hfm) hs htr
            have e1 : ((fs.toList.take (j + 1)).map fun f => P.cellsOf f.type).sum = ((fs.toList.take j).map fun f => P.cellsOf f.type).sum + P.cellsOf f.type := by
              rw [List.take_succ_eq_append_getElem hjl]
              have : fs.toList[j] = f := by rw [List.getElem?_eq_getElem hjl] at hfj; exact Option.some.inj hfj
              rw [this]
              simp
            have hj2 : fs.toList.drop (j + 1) = gs := by
              rw [← List.drop_drop, hj]; rfl
            have h2' : (cs.drop ((fs.toList.take (j + 1)).map fun f => P.cellsOf f.type).sum).length = (gs.map fun f => P.cellsOf f.type).sum := by
              rw [e1, ← List.drop_drop, List.length_drop, h2]
              simp
            have hr2 := ihg r (j + 1) hj2 hr h2'
            rw [e1, ← List.drop_drop] at hr2
            exact ⟨_, _, (List.take_append_drop (P.cellsOf f.type) _).symm, hr1, hr2⟩
          · cases h1
      have := key fs.toList ss 0 rfl hss (by simpa [hlen] using hk2)
      simpa using this
    · cases h
end

/-! ### the row -/
def slPos (P : Program) : Bool := (List.range P.types.size).all fun t => match P.underlying t with
  | some (.slice e) => decide (0 < P.cellsOf e)
  | _ => true

section
variable {H : Type} {enc : TypeId × Value → H} {P : Program} {W W' : World}

theorem trodAll_stays (hl : laidOutB P = true) (hm : mapsRowed P = true) (hz : slPos P = true) (hold : ∀ b, b < W.heap.size → W'.heap[b]? = W.heap[b]?) {sp' : Nat → Bool} :
    ∀ {ts : List TypeId} {vs : List Value} {ds : List (DataW H)} {ps : List MemPlace}, (∀ t ∈ ts, t < P.types.size) → DataW.TrodAll enc P W 0 (fun _ => true) true ts vs ds ps → (∀ p ∈ ps, p.block < W.heap.size) → (∀ p ∈ ps, sp' p.block = true) →
      DataW.TrodAll enc P W' 0 sp' true ts vs ds ps
  | [], vs, ds, ps, _, h, _, _ => by
    obtain ⟨rfl, rfl, rfl⟩ := trodAll_nil h
    rfl
  | t :: ts, vs, ds, ps, ht, h, hb, hs => by
    obtain ⟨v, vs1, d, ds1, a, b, rfl, rfl, rfl, ⟨fuel, h1⟩, h2⟩ := trodAll_cons h
    refine ⟨a, b, ⟨fuel, ?_⟩, trodAll_stays hl hm hz hold (fun t h => ht t (by simp [h])) h2 (fun p hp => hb p (by simp [hp])) (fun p hp => hs p (by simp [hp])), rfl⟩
    refine DataW.trod_stays (K := kids_rows hl hm) (T := (· < P.types.size)) ?_ (fun h => by cases h) (ht t (by simp)) h1 ?_ fun p hp => hs p (by simp [hp])
    · intro t e h3 h4
      have := List.all_eq_true.1 hz t (List.mem_range.2 h3)
      rw [h4] at this
      simpa using this
    · intro p hp
      have hlt := hb p (List.mem_append_left _ hp)
      have := hold p.block hlt
      cases p with
      | cell b off =>
        show W'.cell? _ = W.cell? _
        unfold World.cell?
        rw [show W'.heap[(⟨b, off, none⟩ : Addr).block]? = W.heap[(⟨b, off, none⟩ : Addr).block]? from this]
      | map b => exact this

theorem law_post {f : Func} {s : ChangeSpec} {args : Array Value} {ds gs : List (DataW H)} {before : List MemPlace} {tb : TypeId} (hl : laidOutB P = true) (hm : mapsRowed P = true) (hz : slPos P = true)
    (hW : DataW.Whole enc P f.params.toList s.vars false W args.toList ds gs before) (ht : ∀ t ∈ f.params.toList, t < P.types.size) (hold : ∀ b, b < W.heap.size → W'.heap[b]? = W.heap[b]?) (hos : W'.os = W.os) (hout : W'.output = W.output)
    (hv : s.vars = []) (hfn : s.fn H ds = { results := [.lit (.bool true)], args := ds }) (hrt : f.resultTypes = #[tb]) (hb : P.underlying tb = some .bool) :
    s.post enc P f false true false false W args (.bool true) W' := by
  have hlt := hW.lt
  have hW' := hW
  obtain ⟨p, q, hA, hV, rfl, hfz, _⟩ := hW
  rw [hv] at hV
  obtain ⟨rfl, rfl⟩ := trodVars_none hV
  simp only [List.append_nil] at hW' hlt hfz ⊢
  refine ⟨ds, [], p, [], p, [], hW', ?_, ?_, ?_, ?_, fun h => by cases h⟩
  · rw [List.append_nil, hfn, hrt]
    refine ⟨[], [], ⟨1, ?_⟩, rfl, rfl⟩
    show DataW.trod enc P W' _ _ _ 1 tb [.bool true] = _
    simp only [DataW.trod, hb]
  · rw [List.append_nil, hfn]
    exact trodAll_stays hl hm hz hold ht hA hlt fun p hp => by simpa using hlt p hp
  · rw [List.append_nil, hfn, hv]
    rfl
  · refine ⟨hos, hout, fun i hi => ?_⟩
    rw [hold i hi]
    cases h : W.heap[i]? with
    | none => simp
    | some o => cases o <;> simp

/-- A law's contract from the plain one. -/
theorem law_calls {f : FuncId} {fn : Func} {s : ChangeSpec} {args : Array Value} {ds gs : List (DataW H)} {before : List MemPlace} {tb : TypeId} (hl : laidOutB P = true) (hm : mapsRowed P = true) (hz : slPos P = true)
    (hW : DataW.Whole enc P fn.params.toList s.vars false W args.toList ds gs before) (ht : ∀ t ∈ fn.params.toList, t < P.types.size)
    (hv : s.vars = []) (hfn : s.fn H ds = { results := [.lit (.bool true)], args := ds }) (hrt : fn.resultTypes = #[tb]) (hb : P.underlying tb = some .bool)
    (S : Fsp P f args.toList [Old W] fun u aa' => u = .bool true ∧ aa' = [Old W]) :
    Calls P f args W fun e W' => ∃ v, e = .returned v ∧ s.post enc P fn false true false false W args v W' := by
  have h0 : Sep ([Old W] ++ [fun _ => True]) (hw W) := by
    refine ⟨hw W, fun _ => none, fun _ => .inr rfl, fun b => (or_none _).symm, fun _ _ h => h, ?_⟩
    exact ⟨fun _ => none, fun _ => none, fun _ => .inl rfl, fun b => rfl, trivial, trivial⟩
  have := S (W.os, W.output) (fun _ => True) W ⟨rfl, rfl⟩ h0
  unfold callsR at this
  rw [show args.toList.toArray = args from rfl] at this
  refine Calls.mono this ?_
  rintro x w' ⟨v, rfl, hG, aa', ⟨rfl, rfl⟩, hs⟩
  refine ⟨_, rfl, law_post hl hm hz hW ht ?_ hG.1 hG.2 hv hfn hrt hb⟩
  intro b hb'
  obtain ⟨h1, h2, d, u, ho, _⟩ := hs
  have e1 : W.heap[b]? = some W.heap[b] := Array.getElem?_eq_getElem hb'
  have e2 := ho b _ e1
  have e3 : hw w' b = some W.heap[b] := by rw [u b, e2]; rfl
  rw [e1]; exact e3
end
section
variable {P : Program} {gl : Gl} {n : Nat} {aa r : List HP} {e : Env} {K : Kx}
theorem m_emeet {i : Nat} {α : Type} {E : α → Env} {A : α → List HP} {φ : α → Prop} (hk : K (.exit i) = Meet E A φ) (z : α) (h1 : φ z) (L : List Nat) (h2 : selO e L = some (E z)) (sx : Sx aa (A z) r) : En aa (HM P n gl (.exit i) K e) :=
  m_exit fun h hs => by rw [hk]; exact ⟨z, h1, selO_get h2, sep_left (sx.out hs)⟩
theorem m_cutn {x y : MC} {K2 : Kx} {α : Type} (E : α → Env) (A : α → List HP) (φ : α → Prop) (hk : K .normal = HM P n gl y K2) (m1 : En aa (HM P n gl x (seqK (Meet E A φ) K) e)) (m2 : ∀ z, φ z → En (A z) (HM P n gl y K2 (E z))) : En aa (HM P n gl x K e) := by
  intro h hs
  refine hm_mono ?_ (m1 h hs)
  intro ex e' h' hk'
  cases ex with
  | normal => obtain ⟨z, h1, h2, h3⟩ := hk'; rw [hk]; exact hm_less h2 (m2 z h1 h' h3)
  | _ => exact hk'
def seqB (i : Nat) (k : Env → PH → Prop) (K : Kx) : Kx
  | .normal => k
  | .exit j => if j = i then k else K (.exit j)
  | x => K x
theorem m_cutb {x y : MC} {i : Nat} {K2 : Kx} {α : Type} (E : α → Env) (A : α → List HP) (φ : α → Prop) (hk : K .normal = HM P n gl y K2) (hi : K (.exit i) = HM P n gl y K2) (m1 : En aa (HM P n gl x (seqB i (Meet E A φ) K) e)) (m2 : ∀ z, φ z → En (A z) (HM P n gl y K2 (E z))) : En aa (HM P n gl x K e) := by
  intro h hs
  refine hm_mono ?_ (m1 h hs)
  intro ex e' h' hk'
  cases ex with
  | normal => obtain ⟨z, h1, h2, h3⟩ := hk'; rw [hk]; exact hm_less h2 (m2 z h1 h' h3)
  | exit j =>
    by_cases hj : j = i
    · subst hj
      simp only [seqB, if_true] at hk'
      obtain ⟨z, h1, h2, h3⟩ := hk'; rw [hi]; exact hm_less h2 (m2 z h1 h' h3)
    · simp only [seqB, if_neg hj] at hk'
      exact hk'
  | _ => exact hk'
end
end Go.Dv
