import Derived.Test.YthcbefkgfhokoaaFw4
namespace Go.Dv
open Go
section
variable {P : Program} {w : World} {e : Env} {ρ : Operand → Value}

theorem cell_hw {w : World} {b o : Nat} {c : Array Value} {T : TypeId} {fz : Nat × Nat} (h : hw w b = some (.cells c T fz)) : w.cell? ⟨b, o, none⟩ = c.toList[o]? := by
  unfold hw at h
  simp [World.cell?, h]

theorem add_none (b o k : Nat) : Addr.add ⟨b, o, none⟩ k = ⟨b, o + k, none⟩ := by
  unfold Addr.add; split
  · subst_vars; rfl
  · rfl

theorem run_loadAgg {t : TypeId} {n : Option Nat} {b o : Nat} {c : Array Value} {T : TypeId} {fz : Nat × Nat} {v : Value} (ha : aggT P t = some n)
    (hb : hw w b = some (.cells c T fz))
    (hv : atCells n c.toList o = some v) :
    (loadVar t ⟨b, o, none⟩).run P w = .ok v w := by
  unfold aggT at ha
  cases hu : P.underlying t with
  | none => simp [hu] at ha
  | some d =>
    have key : ∀ (sz : Nat), (P.info? t).map (fun i => some i.size) = some (some sz) → n = some sz → (do pure (.agg (← loadCells ⟨b, o, none⟩ (← sizeOf t))) : Sem Value).run P w = .ok v w := by
      intro sz hs hn
      subst hn
      have hsz : (sizeOf t).run P w = .ok sz w := by
        cases hi : P.info? t with
        | none => simp [hi] at hs
        | some i => simp [hi] at hs; simp [sizeOf, typeInfo, hi, hs]
      simp only [atCells] at hv
      split at hv
      · rename_i hle
        simp only [Option.some.injEq] at hv
        subst hv
        have hl := run_loadCells_list (P := P) (w := w) ⟨b, o, none⟩ ((c.toList.drop o).take sz) (fun j v hj => by
          rw [add_none, cell_hw hb]
          rw [List.getElem?_take] at hj
          split at hj
          · rwa [List.getElem?_drop] at hj
          · cases hj)
        have hlen : ((c.toList.drop o).take sz).length = sz := by simp at hle ⊢; omega
        rw [hlen] at hl
        simp only [Sem.run_bind, hsz, Result.andThen_ok, hl, Sem.run_pure]
      · cases hv
    cases d
    case struct fs =>
      simp only [hu] at ha
      obtain ⟨sz, hsz⟩ : ∃ sz, n = some sz := by cases hi : P.info? t with
        | none => simp [hi] at ha
        | some i => simp [hi] at ha; exact ⟨_, ha.symm⟩
      have := key sz (by rw [ha, hsz]) hsz
      simpa [loadVar, isAgg, run_underlying hu] using this
    case array m el =>
      simp only [hu] at ha
      obtain ⟨sz, hsz⟩ : ∃ sz, n = some sz := by cases hi : P.info? t with
        | none => simp [hi] at ha
        | some i => simp [hi] at ha; exact ⟨_, ha.symm⟩
      have := key sz (by rw [ha, hsz]) hsz
      simpa [loadVar, isAgg, run_underlying hu] using this
    all_goals
      simp only [hu, Option.some.injEq] at ha
      subst ha
      have hc : w.cell? ⟨b, o, none⟩ = some v := by rw [cell_hw hb]; exact hv
      simp [loadVar, isAgg, run_underlying hu, run_load, hc]
end
end Go.Dv
