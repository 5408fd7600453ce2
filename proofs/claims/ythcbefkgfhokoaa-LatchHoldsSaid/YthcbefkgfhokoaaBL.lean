import Derived.Test.YthcbefkgfhokoaaC1
import Derived.Test.YthcbefkgfhokoaaSf
/- The sort of a holder's writes: a permutation in the order of keys. -/
namespace Go.Proofs.Ythcbefkgfhokoaa
open Go Go.Dv Go.Shelf Go.RowKit Go.Lib Go.Sort Go.Proofs
instance : Inhabited Wr := ⟨⟨emp, emp, false⟩⟩
def cmpW (a b : Wr) : Int := if slt a.key b.key then -1 else 1
set_option maxHeartbeats 1000000 in
theorem closure34 (x y : Wr) (W : World) : Calls Try.prog 34 #[.agg #[.string x.key, .string x.val, .bool x.dead], .agg #[.string y.key, .string y.val, .bool y.dead]] W fun e w' => e = .returned (.int .i64 (cmpW x y)) ∧ ∃ q os', w' = grow (W.drewN q) os' := by
  go_enter Try.func34, Try.ntmps34
  go_wp2
  all_goals (try go_ret)
  all_goals (refine ⟨by simp_all [cmpW, slt], 0, _, by rw [alloc_eq_grow, alloc_eq_grow, grow_grow]; rfl⟩)
theorem cmpLays34 (blk off size : Nat) (w : World) : CmpLays Try.prog 34 #[] Wr.cells 3 cmpW blk off size w := fun _ _ _ _ x y => closure34 x y _

theorem ltOf_eq (x y : Wr) : ltOf cmpW x y = slt x.key y.key := by
  unfold ltOf cmpW
  cases slt x.key y.key <;> simp
theorem swoW : SWO (ltOf cmpW) := by
  refine ⟨fun x => by rw [ltOf_eq, slt_irr], fun x y z h1 h2 => ?_, fun x y z h1 h2 => ?_⟩
  · rw [ltOf_eq] at *; exact slt_trans h1 h2
  · rw [ltOf_eq] at *
    cases h3 : slt x.key z.key with
    | false => rfl
    | true =>
      rcases slt_tri y.key z.key with h | h | h
      · rw [h] at h2; cases h2
      · rw [h] at h1; rw [h1] at h3; cases h3
      · have := slt_trans h3 h; rw [this] at h1; cases h1

theorem flat_get {k : Nat} (hk0 : 0 < k) {xs : List (List Value)} (hk : ∀ x ∈ xs, x.length = k) {t : Nat} {x : List Value} (hi : xs[t / k]? = some x) : xs.flatten[t]? = x[t % k]? := by
  obtain ⟨h1, h2⟩ := flat_at hk hi
  rw [← h1, List.getElem?_take, if_pos (Nat.mod_lt _ hk0), List.getElem?_drop]
  congr 1
  rw [Nat.mul_comm]; exact (Nat.div_add_mod t k).symm
theorem flatK_eq (d : Array Wr) : flatK Wr.cells 3 d = (wcs d.toList).flatten.toArray := by
  have hk : ∀ x ∈ wcs d.toList, x.length = 3 := by
    intro x hx
    obtain ⟨w, _, rfl⟩ := List.mem_map.1 hx
    rfl
  have hlen : (wcs d.toList).flatten.length = d.size * 3 := by rw [flat_len hk, wcs_len]; simp
  refine ext_get! (by rw [size_flatK]; simp [hlen]) fun t ht => ?_
  rw [size_flatK] at ht
  rw [get_flatK _ _ _ _ ht]
  have hlt : t / 3 < d.size := by omega
  have hx : (wcs d.toList)[t / 3]? = some (d[t / 3]!).cells := by
    rw [wcs, List.getElem?_map]
    simp [hlt]
  have h1 := flat_get (k := 3) (by decide) hk (t := t) hx
  generalize d[t / 3]! = y at h1 ⊢
  have h2 : t % 3 < y.cells.length := Nat.mod_lt t (show 0 < 3 by decide)
  rw [List.getElem?_eq_getElem h2] at h1
  have h3 : (wcs d.toList).flatten.toArray[t]! = y.cells[t % 3] := by rw [getElem!_def, List.getElem?_toArray, h1]
  rw [h3]
  exact getElem!_pos y.cells (t % 3) h2

theorem size39 (w : World) : (Go.sizeOf 39).run Try.prog w = .ok 3 w := by
  have h : sizeT Try.prog 39 = some 3 := by kernel_rfl
  unfold sizeT at h
  cases hi : Try.prog.info? 39 with
  | none => rw [hi] at h; cases h
  | some i => rw [hi] at h; simp only [Option.map_some, Option.some.injEq] at h; simp [Go.sizeOf, typeInfo, hi, h]
theorem bd34 : Bd Try.prog 34 := by
  have h : (match Try.prog.funcs[34]? with | some fn => (fn.name == "runtime.NumGoroutine") == false && fn.body.isSome | none => false) = true := by kernel_rfl
  split at h
  · rename_i fn hf
    simp only [Bool.and_eq_true, beq_iff_eq] at h
    cases hb : fn.body with
    | none => rw [hb] at h; simp at h
    | some c => exact ⟨fn, c, hf, h.1, hb⟩
  · cases h

theorem hw_putRow {w : World} {b : Nat} {d : Array Value} {c : List Value} {T : TypeId} (hb : hw w b = some (.cells c.toArray T (0, 0))) (hd : d.size ≤ c.length) : hw (putRow id w b 0 d) b = some (.cells (d.toList ++ c.drop d.size).toArray T (0, 0)) := by
  have hb' : w.heap[b]? = some (.cells c.toArray T (0, 0)) := hb
  show (w.heap.modify b _)[b]? = _
  rw [Array.getElem?_modify, if_pos rfl, hb']
  simp only [Option.map_some, onCells]
  congr 2
  apply Array.ext_getElem?
  intro k
  simp only [putCells, Array.getElem?_mapIdx, List.getElem?_toArray, Nat.zero_add, Nat.sub_zero, id]
  by_cases hk : k < d.size
  · have h1 : k < c.length := by omega
    rw [List.getElem?_append_left (by simpa using hk), List.getElem?_eq_getElem h1, Option.map_some, if_pos ⟨Nat.zero_le _, hk⟩]
    simp [hk]
  · rw [List.getElem?_append_right (by simpa using hk), List.getElem?_drop]
    have e : d.size + (k - d.toList.length) = k := by simp; omega
    rw [e]
    cases c[k]? with
    | none => rfl
    | some x => simp [hk]
theorem hw_putRow_ne {w : World} {b j : Nat} {d : Array Value} (h : j ≠ b) : hw (putRow id w b 0 d) j = hw w j := by
  show (w.heap.modify b _)[j]? = _
  rw [Array.getElem?_modify, if_neg (Ne.symm h)]; rfl

theorem Sort_spec (v : Value) (ws : List Wr) (h0 : ws ≠ []) (hl : ws.length < 4611686018427387904) : Fsp Try.prog 33 [v, .func (.func 34) #[] #[]] [OwS 39 3 v ws.length (wcs ws).flatten] fun u aa' =>
    u = .tuple #[] ∧ ∃ ws' : List Wr, ws'.Perm ws ∧ ws'.Pairwise (fun a b => slt b.key a.key = false) ∧ aa' = [OwS 39 3 v ws.length (wcs ws').flatten] := by
  intro gl F w hG hs
  obtain ⟨h1, h2, dj, un, ⟨hlen, hor⟩, hr⟩ := hs
  rcases hor with ⟨rfl, hz⟩ | ⟨b, cap, sp, rfl, hcap, hspl, hb⟩
  · exact absurd (List.length_eq_zero_iff.1 hz) h0
  have hbw : hw w b = some (.cells ((wcs ws).flatten ++ sp).toArray 39 (0, 0)) := by rw [un b, hb]; rfl
  have hbw' : w.heap[b]? = some (.cells ((wcs ws).flatten ++ sp).toArray 39 (0, 0)) := hbw
  have hblk : b < w.heap.size := (Array.getElem?_eq_some_iff.1 hbw').1
  have hfl : flatK Wr.cells 3 ws.toArray = (wcs ws).flatten.toArray := flatK_eq ws.toArray
  have hH : HoldsK Wr.cells 3 w b 0 ws.toArray := by
    intro j hj
    rw [hfl] at hj ⊢
    have hj' : j < (wcs ws).flatten.length := by simpa using hj
    refine ⟨?_, ?_⟩
    · unfold World.cell?
      simp only [hbw', Nat.zero_add, Option.isSome_none, Bool.false_eq_true, if_false, id]
      rw [List.getElem?_toArray, List.getElem?_append_left hj']
      simp [getElem!_def, List.getElem?_eq_getElem hj']
    · unfold World.frozen?
      simp only [hbw']
      simp
  have hcon := AnyQ.slices_SortFunc Try.sortW 3 Try.isAgg39 size39 Wr.cells (fun _ => rfl) (fun x v hv => by simp [Wr.cells] at hv; rcases hv with rfl | rfl | rfl <;> rfl) cmpW swoW 34 #[] b 0 cap ws.toArray w
    (by obtain ⟨fn, c, h1, h2, h3⟩ := bd34; intro args w; simp [callFunc, h1, h3]; simpa using h2) (cmpLays34 b 0 _ w) hH hblk (by simpa using hl)
  rw [List.size_toArray] at hcon
  change Calls Try.prog 33 _ _ _ at hcon
  refine Calls.mono hcon ?_
  rintro x w' ⟨rfl, d', n, os, hP, hS, rfl⟩
  obtain ⟨hsz0, _, hperm⟩ := hP
  have hsz : d'.size = ws.length := by simpa using hsz0
  have hperm' : d'.toList.Perm ws := by
    rw [show (Array.extract d' 0 ws.length) = d' by rw [← hsz]; simp] at hperm
    simpa using hperm
  have hfl' := flatK_eq d'
  have hk' : ∀ x ∈ wcs d'.toList, x.length = 3 := by
    intro x hx
    obtain ⟨w, _, rfl⟩ := List.mem_map.1 hx
    rfl
  have hlen' : (wcs d'.toList).flatten.length = ws.length * 3 := by rw [flat_len hk', wcs_len]; simp [hsz]
  have hsw : sortWorldK Wr.cells 3 w b 0 n d' os = grow (putRow id (Sort.ahead w n) b 0 (flatK Wr.cells 3 d')) os := rfl
  have hba : hw (Sort.ahead w n) b = some (.cells ((wcs ws).flatten ++ sp).toArray 39 (0, 0)) := hbw
  have hput := hw_putRow (d := flatK Wr.cells 3 d') hba (by rw [hfl']; simp only [List.size_toArray, List.length_append]; omega)
  have hdrop : ((wcs ws).flatten ++ sp).drop (flatK Wr.cells 3 d').size = sp := by
    rw [hfl', List.size_toArray, hlen', ← hlen, List.drop_left']; rfl
  have htl : (flatK Wr.cells 3 d').toList = (wcs d'.toList).flatten := by rw [hfl']
  rw [hdrop, htl] at hput
  have hold : ∀ j o, hw (putRow id (Sort.ahead w n) b 0 (flatK Wr.cells 3 d')) j = some o → hw (grow (putRow id (Sort.ahead w n) b 0 (flatK Wr.cells 3 d')) os) j = some o := by
    intro j o hj
    have hj' : (putRow id (Sort.ahead w n) b 0 (flatK Wr.cells 3 d')).heap[j]? = some o := hj
    have hlt := (Array.getElem?_eq_some_iff.1 hj').1
    show ((putRow id (Sort.ahead w n) b 0 (flatK Wr.cells 3 d')).heap ++ os)[j]? = some o
    rw [Array.getElem?_append_left hlt]; exact hj'
  refine ⟨.tuple #[], rfl, ⟨hG.1, hG.2⟩, [OwS 39 3 (.slice (some ⟨b, 0, none⟩) ws.length cap) ws.length (wcs d'.toList).flatten], ⟨rfl, d'.toList, hperm', ?_, rfl⟩, ?_⟩
  · rw [List.pairwise_iff_getElem]
    intro i j hi hj hij
    have := hS i j (Nat.zero_le _) hij (by have h := hj; rw [Array.length_toList] at h; omega)
    rw [ltOf_eq] at this
    rw [Array.length_toList] at hi hj
    simpa [hi, hj] using this
  · rw [hsw]
    refine sep_mono (h := hw (putRow id (Sort.ahead w n) b 0 (flatK Wr.cells 3 d'))) ?_ hold
    have hnb : h2 b = none := by
      rcases dj b with h | h
      · rw [hb] at h; cases h
      · exact h
    refine ⟨fun k => if k = b then some (.cells ((wcs d'.toList).flatten ++ sp).toArray 39 (0, 0)) else h1 k, h2, fun k => ?_, fun k => ?_, ⟨hlen', .inr ⟨b, cap, sp, rfl, hcap, ?_, if_pos rfl⟩⟩, hr⟩
    · by_cases hk : k = b
      · subst hk; exact .inr hnb
      · simp only [if_neg hk]; exact dj k
    · by_cases hk : k = b
      · subst hk; rw [hput]; simp
      · rw [hw_putRow_ne hk]; simp only [if_neg hk]; exact un k
    · rw [← hspl, List.length_append, List.length_append, hlen', hlen]
end Go.Proofs.Ythcbefkgfhokoaa
