import Derived.Test.YthcbefkgfhokoaaFw5
namespace Go.Dv
open Go
section
variable {P : Program} {w : World} {e : Env} {ρ : Operand → Value}

theorem set_splice (off : Nat) : ∀ (vs : List Value) (k : Nat) (cs : Array Value), off + k + vs.length ≤ cs.size →
    ((vs.zipIdx k).foldl (fun (cs : Array Value) (x : Value × Nat) => cs.setIfInBounds (off + x.2) x.1) cs).toList = splice cs.toList (off + k) vs
  | [], k, cs, h => by simp [splice]
  | v :: vs, k, cs, h => by
    simp only [List.length_cons] at h
    simp only [List.zipIdx_cons, List.foldl_cons]
    rw [set_splice off vs (k + 1) (cs.setIfInBounds (off + k) v) (by simp; omega)]
    simp only [splice, Array.toList_setIfInBounds, List.length_cons]
    have hk : off + k < cs.toList.length := by simp; omega
    rw [show off + (k + 1) = off + k + 1 from by omega]
    have e1 : (cs.toList.set (off + k) v).take (off + k + 1) = cs.toList.take (off + k) ++ [v] := by
      rw [List.take_succ_eq_append_getElem (by simpa using hk)]
      simp [List.take_set_of_le]
    have e2 : (cs.toList.set (off + k) v).drop (off + k + 1 + vs.length) = cs.toList.drop (off + k + (vs.length + 1)) := by
      rw [List.drop_set_of_lt (by omega)]
      congr 1; omega
    rw [e1, e2]
    simp

theorem fill_eq (pl : List (Nat × Nat)) : ∀ (parts : List (Nat × Operand)) (ps : List (Nat × Nat × Operand)) (vs : List (Nat × Nat × Value)) (cs : Array Value) (r : List Value),
    parts.mapM (fun p => (pl[p.1]?).map fun q => (q.1, q.2, p.2)) = some ps → evp e ps = some vs → Agr e ρ → fillL cs.toList vs = some r →
    Instr.fill (pl.toArray[·]?) cs (parts.map fun p => (p.1, ρ p.2)) = some r.toArray := by
  intro parts
  induction parts with
  | nil =>
    intro ps vs cs r h hv hρ hf
    simp at h; subst h
    simp only [evp, Option.some.injEq] at hv; subst hv
    simp only [fillL, Option.some.injEq] at hf; subst hf
    simp [Instr.fill]
  | cons p parts ih =>
    intro ps vs cs r h hv hρ hf
    simp only [List.mapM_cons, Option.bind_eq_bind, Option.pure_def] at h
    cases hp : pl[p.1]? with
    | none => simp [hp] at h
    | some q =>
      cases hr : parts.mapM (fun p => (pl[p.1]?).map fun q => (q.1, q.2, p.2)) with
      | none => simp [hp, hr] at h
      | some ps' =>
        simp [hp, hr] at h
        subst h
        simp only [evp] at hv
        split at hv
        · rename_i v vs' h1 h2
          simp only [Option.some.injEq] at hv; subst hv
          simp only [fillL] at hf
          split at hf
          · rename_i hc
            obtain ⟨hc1, hc2⟩ := hc
            have hρv : ρ p.2 = v := hρ _ _ h1
            have hsz : v.cells.size = q.2 := by simpa using hc1
            simp only [List.map_cons, Instr.fill]
            have hq : (pl.toArray[p.1]?) = some q := by simpa using hp
            simp only [hq]
            rw [hρv]
            have hcond : (v.cells.size ≠ q.2 || q.1 + v.cells.size > cs.size) = false := by
              simp only [Array.length_toList] at hc2
              simp [hsz]; omega
            have hcond2 : ¬ ((decide (v.cells.size ≠ q.2) || decide (q.1 + v.cells.size > cs.size)) = true) := by simpa using hcond
            rw [if_neg hcond2]
            refine ih ps' vs' _ r hr h2 hρ ?_
            rw [show (v.cells.zipIdx.foldl (fun cs (x : Value × Nat) => cs.setIfInBounds (q.1 + x.2) x.1) cs).toList = splice cs.toList q.1 v.cells.toList from ?_]
            · exact hf
            · have := set_splice q.1 v.cells.toList 0 cs (by simp only [Array.length_toList] at hc2 ⊢; omega)
              rw [← Array.foldl_toList, Array.toList_zipIdx]
              exact this
          · cases hf
        · cases hv

theorem run_bld {t : TypeId} {parts : Array (Nat × Operand)} {i : TypeInfo} {z : Value} {pl : List (Nat × Nat)} {ps : List (Nat × Nat × Operand)} {v : Value}
    (hi : P.info? t = some i) (hp : placesT P t = some pl) (hz : i.zero = some z) (hm : parts.toList.mapM (fun p => (pl[p.1]?).map fun q => (q.1, q.2, p.2)) = some ps)
    (hρ : Agr e ρ) (h : pv e (.bld z.cells.toList ps) = some v) : (Instr.build t (parts.map fun (i, x) => (i, ρ x))).run P w = .ok v w := by
  simp only [pv] at h
  split at h
  · rename_i vs hvs
    split at h
    · rename_i cs hcs
      simp only [Option.some.injEq] at h; subst h
      have hfill := fill_eq pl parts.toList ps vs z.cells cs hm hvs hρ hcs
      refine run_build w t _ _ ?_
      unfold placesT at hp
      unfold Program.built
      rw [hi]
      split at hp
      · rename_i fs hu
        simp only [hu, hz, hp]
        rw [Array.toList_map]
        exact hfill
      · cases hp
    · cases h
  · cases h
end
end Go.Dv
