import Derived.Test.YthcbefkgfhokoaaFw3
namespace Go.Dv
open Go
section
variable {P : Program} {w : World} {e : Env} {ρ : Operand → Value}

/-! ### equality of structs -/
theorem eqc_len : ∀ (ks : List CK) (xs ys : List Value) (b : Bool), eqc ks xs ys = some b → xs.length = ks.length ∧ ys.length = ks.length
  | [], [], [], _, _ => ⟨rfl, rfl⟩
  | [], _ :: _, _, _, h => by cases h
  | [], [], _ :: _, _, h => by cases h
  | _ :: _, [], _, _, h => by cases h
  | _ :: _, _ :: _, [], _, h => by cases h
  | k :: ks, x :: xs, y :: ys, b, h => by
    simp only [eqc] at h
    split at h
    · rename_i a r h1 h2
      obtain ⟨hx, hy⟩ := eqc_len ks xs ys r h2
      simp [hx, hy]
    · cases h

theorem eqc_append : ∀ (k1 k2 : List CK) (xs ys : List Value) (b : Bool), eqc (k1 ++ k2) xs ys = some b →
    ∃ b1 b2, eqc k1 (xs.take k1.length) (ys.take k1.length) = some b1 ∧ eqc k2 (xs.drop k1.length) (ys.drop k1.length) = some b2 ∧ b = (b1 && b2)
  | [], k2, xs, ys, b, h => ⟨true, b, by simp [eqc], by simpa using h, by simp⟩
  | k :: k1, k2, [], ys, b, h => by simp [eqc] at h
  | k :: k1, k2, x :: xs, [], b, h => by simp [eqc] at h
  | k :: k1, k2, x :: xs, y :: ys, b, h => by
    simp only [List.cons_append, eqc] at h
    split at h
    · rename_i a r h1 h2
      obtain ⟨b1, b2, e1, e2, rfl⟩ := eqc_append k1 k2 xs ys r h2
      simp only [Option.some.injEq] at h
      exact ⟨a && b1, b2, by simp [eqc, h1, e1], by simpa using e2, by rw [← h, Bool.and_assoc]⟩
    · cases h

theorem run_part {t : TypeId} {n : Option Nat} {cs : Array Value} {off : Nat} {v : Value} (ha : aggT P t = some n)
    (h : atCells n cs.toList off = some v) :
    (part t cs off).run P w = .ok v w := by
  unfold aggT at ha
  cases hu : P.underlying t with
  | none => simp [hu] at ha
  | some d =>
    have hagg : ∀ (sz : Nat), (P.info? t).map (fun i => some i.size) = some (some sz) → (sizeOf t).run P w = .ok sz w := by
      intro sz hs
      cases hi : P.info? t with
      | none => simp [hi] at hs
      | some i => simp [hi] at hs; simp [sizeOf, typeInfo, hi, hs]
    cases d
    case struct fs =>
      simp only [hu] at ha
      cases n with
      | none => cases hi : P.info? t <;> simp [hi] at ha
      | some sz =>
        simp only [atCells] at h
        split at h
        · simp only [Option.some.injEq] at h
          subst h
          simp only [part, isAgg, Sem.run_bind, run_underlying hu, Result.andThen_ok, Sem.run_pure, if_true, hagg sz ha]
          congr 2
          apply Array.ext'
          simp [Array.toList_extract, List.extract_eq_take_drop]
        · cases h
    case array m el =>
      simp only [hu] at ha
      cases n with
      | none => cases hi : P.info? t <;> simp [hi] at ha
      | some sz =>
        simp only [atCells] at h
        split at h
        · simp only [Option.some.injEq] at h
          subst h
          simp only [part, isAgg, Sem.run_bind, run_underlying hu, Result.andThen_ok, Sem.run_pure, if_true, hagg sz ha]
          congr 2
          apply Array.ext'
          simp [Array.toList_extract, List.extract_eq_take_drop]
        · cases h
    all_goals
      simp only [hu, Option.some.injEq] at ha
      subst ha
      have hc : cs[off]? = some v := by simpa [atCells] using h
      simp [part, isAgg, run_underlying hu, hc]

/-- the value whose cells are these -/
def ofCells : Option Nat → List Value → Option Value
  | none, [v] => some v
  | none, _ => none
  | some _, cs => some (.agg cs.toArray)

theorem flat_agg : ∀ {d : Nat} {t : TypeId} {ks : List CK} {i : TypeInfo}, flatT P d t = some ks → P.info? t = some i → i.size = ks.length →
    (aggT P t = some none ∧ ∃ k, ks = [k]) ∨ (aggT P t = some (some ks.length)) := by
  intro d t ks i h hi hs
  cases d with
  | zero => simp [flatT] at h
  | succ d =>
    simp only [flatT] at h
    split at h
    · rename_i k hu; simp only [Option.some.injEq] at h; exact .inl ⟨by simp [aggT, hu], _, h.symm⟩
    · rename_i hu; simp only [Option.some.injEq] at h; exact .inl ⟨by simp [aggT, hu], _, h.symm⟩
    · rename_i hu; simp only [Option.some.injEq] at h; exact .inl ⟨by simp [aggT, hu], _, h.symm⟩
    · rename_i fs hu; exact .inr (by simp [aggT, hu, hi, hs])
    · cases h

theorem eqc_one {k : CK} {xs ys : List Value} {b : Bool} (h : eqc [k] xs ys = some b) : ∃ x y, xs = [x] ∧ ys = [y] ∧ eq1 k x y = some b := by
  obtain ⟨h1, h2⟩ := eqc_len _ _ _ _ h
  match xs, ys, h1, h2 with
  | [x], [y], _, _ =>
    simp only [eqc] at h
    split at h
    · rename_i a r e1 e2
      simp only [Option.some.injEq] at e2 h
      subst e2 h
      exact ⟨x, y, rfl, rfl, by simpa using e1⟩
    · cases h

theorem run_eqT : ∀ (d : Nat), (∀ (t : TypeId) (ks : List CK) (n : Option Nat) (xs ys : List Value) (x y : Value) (b : Bool) (D : Nat), flatT P d t = some ks → aggT P t = some n → d ≤ D →
      ofCells n xs = some x → ofCells n ys = some y → eqc ks xs ys = some b → (Op.equalIn D t x y).run P w = .ok b w) ∧
    (∀ (fs : List Field) (o : Nat) (ks : List CK) (xs ys : Array Value) (b : Bool) (D : Nat), flatF P d fs o = some ks → d ≤ D → eqc ks (xs.toList.drop o) (ys.toList.drop o) = some b →
      (Op.eqFields D xs ys fs).run P w = .ok b w) := by
  intro d
  induction d with
  | zero => exact ⟨fun t ks n xs ys x y b D h => by simp [flatT] at h, fun fs o ks xs ys b D h => by simp [flatF] at h⟩
  | succ d ih =>
    constructor
    · intro t ks n xs ys x y b D h hn hD hx hy hc
      obtain ⟨D, rfl⟩ : ∃ D', D = D' + 1 := ⟨D - 1, by omega⟩
      simp only [flatT] at h
      split at h
      · rename_i k hu
        simp only [Option.some.injEq] at h; subst h
        obtain ⟨x', y', rfl, rfl, h1⟩ := eqc_one hc
        have hn' : n = none := by simp [aggT, hu] at hn; exact hn.symm
        subst hn'
        simp only [ofCells, Option.some.injEq] at hx hy
        subst hx hy
        unfold eq1 at h1
        split at h1 <;> (try simp only [reduceCtorEq] at h1)
        · rename_i k k1 a k2 c heq
          split at h1
          · rename_i hk; obtain ⟨rfl, rfl⟩ := hk
            simp only [Option.some.injEq] at h1; subst h1
            rw [run_equalIn_int w D t _ _ a c hu, int_eq]
          · cases h1
        · rename_i heq; cases heq
        · rename_i heq; cases heq
      · rename_i hu
        simp only [Option.some.injEq] at h; subst h
        obtain ⟨x', y', rfl, rfl, h1⟩ := eqc_one hc
        have hn' : n = none := by simp [aggT, hu] at hn; exact hn.symm
        subst hn'
        simp only [ofCells, Option.some.injEq] at hx hy
        subst hx hy
        unfold eq1 at h1
        split at h1 <;> (try simp only [reduceCtorEq] at h1)
        · rename_i heq; cases heq
        · rename_i a c heq
          simp only [Option.some.injEq] at h1; subst h1
          rw [run_equalIn_string w D t a c hu, str_eq]
        · rename_i heq; cases heq
      · rename_i hu
        simp only [Option.some.injEq] at h; subst h
        obtain ⟨x', y', rfl, rfl, h1⟩ := eqc_one hc
        have hn' : n = none := by simp [aggT, hu] at hn; exact hn.symm
        subst hn'
        simp only [ofCells, Option.some.injEq] at hx hy
        subst hx hy
        unfold eq1 at h1
        split at h1 <;> (try simp only [reduceCtorEq] at h1)
        · rename_i heq; cases heq
        · rename_i heq; cases heq
        · rename_i a c heq
          simp only [Option.some.injEq] at h1; subst h1
          rw [run_equalIn_bool' w D t a c hu]
      · rename_i fs hu
        split at h
        · cases h
        · rename_i hst0
          have hp : P.stoodInHeld t = false := by simpa using hst0
          have hf : P.underlying t = some (.struct (P.fieldsOf t)) := by simp [Program.fieldsOf, hu]
          have hf2 : (P.fieldsOf t).toList = fs.toList := by simp [Program.fieldsOf, hu]
          have hn' : ∃ m, n = some m := by
            cases hi : P.info? t with
            | none => simp [aggT, hu, hi] at hn
            | some i => simp [aggT, hu, hi] at hn; exact ⟨_, hn.symm⟩
          obtain ⟨m, rfl⟩ := hn'
          simp only [ofCells, Option.some.injEq] at hx hy
          subst hx hy
          rw [run_equalIn_struct w D t _ _ hf hp, hf2]
          exact ih.2 fs.toList 0 ks _ _ b D h (by omega) (by simpa using hc)
      · cases h
    · intro fs o ks xs ys b D h hD hc
      cases fs with
      | nil =>
        simp only [flatF, Option.some.injEq] at h; subst h
        have : b = true := by
          obtain ⟨h1, h2⟩ := eqc_len _ _ _ _ hc
          rw [List.length_eq_zero_iff.1 h1, List.length_eq_zero_iff.1 h2] at hc
          simpa [eqc] using hc.symm
        subst this
        simp [Op.eqFields]
      | cons f fs =>
        simp only [flatF] at h
        split at h
        · rename_i k1 i h1 hi
          split at h
          · rename_i hcond
            obtain ⟨rfl, hname, hsz, hpos⟩ := hcond
            split at h
            · rename_i k2 h2
              simp only [Option.some.injEq] at h; subst h
              obtain ⟨b1, b2, e1, e2, rfl⟩ := eqc_append k1 k2 _ _ b hc
              have hl := eqc_len _ _ _ _ e1
              obtain ⟨n, hn, hcells⟩ : ∃ n, aggT P f.type = some n ∧ ∀ (zs : Array Value), ((zs.toList.drop f.offset).take k1.length).length = k1.length →
                  ∃ v, ofCells n ((zs.toList.drop f.offset).take k1.length) = some v ∧ (part f.type zs f.offset).run P w = .ok v w := by
                rcases flat_agg h1 hi hsz with ⟨ha, k, rfl⟩ | ha
                · refine ⟨none, ha, fun zs hz => ?_⟩
                  match hq : (zs.toList.drop f.offset).take [k].length, hz with
                  | [v], _ =>
                    refine ⟨v, rfl, run_part ha ?_⟩
                    have := congrArg (·[0]?) hq
                    simpa [atCells, List.getElem?_take, List.getElem?_drop] using this
                · refine ⟨_, ha, fun zs hz => ⟨_, rfl, run_part ha ?_⟩⟩
                  have hle : f.offset + k1.length ≤ zs.toList.length := by
                    rw [List.length_take, List.length_drop] at hz
                    omega
                  simp only [atCells]
                  rw [if_pos hle]
              obtain ⟨x, hx1, hx2⟩ := hcells xs hl.1
              obtain ⟨y, hy1, hy2⟩ := hcells ys hl.2
              have hrest := ih.2 fs (f.offset + k1.length) k2 xs ys b2 D h2 (by omega) (by simpa [List.drop_drop] using e2)
              have hrun := ih.1 f.type k1 n _ _ x y b1 D h1 hn (by omega) hx1 hy1 e1
              simp only [Op.eqFields, ne_eq, hname, not_false_eq_true, if_true, Sem.run_bind, hx2, hy2, Result.andThen_ok, hrun]
              cases b1 <;> simp [hrest]
            · cases h
          · cases h
        · cases h
end
end Go.Dv
