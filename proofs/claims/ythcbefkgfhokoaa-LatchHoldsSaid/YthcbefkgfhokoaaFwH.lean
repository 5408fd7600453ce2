import Derived.Test.YthcbefkgfhokoaaFwG
/- Rounds; rows that are read. -/
namespace Go.Dv
open Go

section
variable {P : Program} {gl : Gl} {n : Nat} {aa r : List HP} {J : PH → Prop} {e : Env} {K : Kx} {k : Env → PH → Prop}

theorem m_lp {b : MC} {α : Type} (E : α → Env) (A : α → List HP) (φ : α → Prop) (μ : α → Nat)
    (m : ∀ z, φ z → En (A z) (HM P n gl b (seqK (Meet E A fun y => φ y ∧ μ y < μ z) K) (E z)))
    (z : α) (h1 : φ z) (L : List Nat) (h2 : selO e L = some (E z)) (sx : Sx aa (A z) r) : En aa (HM P n gl (.loop b) K e) := by
  intro h hs
  refine hm_loop (fun x e h => φ x ∧ Env.le (E x) e ∧ Sep (A x) h) μ z ⟨h1, selO_get h2, sep_left (sx.out hs)⟩ ?_
  rintro x e h ⟨hφ, hle, hs⟩
  refine hm_less hle (hm_mono ?_ (m x hφ h hs))
  intro ex e' h' hk
  cases ex with
  | normal => obtain ⟨y, ⟨q1, q2⟩, q3, q4⟩ := hk; exact ⟨y, q2, q1, q3, q4⟩
  | _ => exact hk

theorem t_ia {d sz : Nat} {g : Option (Nat × Bool)} {x y : Operand} {t : MT} {pend : Pn} {D b o len c : Nat} {q : IntKind} (i : Nat) (hg : gdv e g = some true)
    (hx : ev e x = some (.slice (some ⟨b, o, none⟩) len c)) (hy : ev e y = some (.int q (i : Int))) (hb : i < len) (m : En aa (HTh P gl k t pend D ((d, .pointer (some ⟨b, o + i * sz, none⟩)) :: e))) :
    En aa (HTh P gl k (.rd (some d) g none (.ia sz x y) t) pend D e) := by
  refine t_c hg (fun h => ?_) m
  simp only [RV, rv, hx, hy]
  rw [if_pos ⟨Int.natCast_nonneg _, by omega⟩]
  rfl

theorem ld_at {x : Operand} {c : Option Nat} {b o : Nat} {R : HP} {v : Value} (hx : ev e x = some (.pointer (some ⟨b, o, none⟩))) (pk : Pk aa R r)
    (hv : ∀ h, R h → ∃ arr T fz, h b = some (.cells arr T fz) ∧ atCells c arr.toList o = some v) : En aa (fun h => RV P h e (.ld c x) v) := by
  intro h hs
  obtain ⟨h1, h2, d, u, hR, _⟩ := pk.out hs
  obtain ⟨arr, T, fz, h3, h4⟩ := hv h1 hR
  have : h b = some (.cells arr T fz) := by rw [u b, h3]; rfl
  simp [RV, rv, hx, this, h4]
theorem t_la {d : Nat} {g : Option (Nat × Bool)} {x : Operand} {c : Option Nat} {t : MT} {pend : Pn} {D : Nat} {v : Value} {o : Option Nat} {b f : Nat} {R : HP} (hg : gdv e g = some true)
    (hx : ev e x = some (.pointer (some ⟨b, f, none⟩))) (pk : Pk aa R r) (hv : ∀ h, R h → ∃ arr T fz, h b = some (.cells arr T fz) ∧ atCells c arr.toList f = some v) (m : En aa (HTh P gl k t (remember P o e (.ld c x) v pend) D ((d, v) :: e))) :
    En aa (HTh P gl k (.rd (some d) g o (.ld c x) t) pend D e) := t_r hg (ld_at hx pk hv) m

/-- Where R is, v is a slice of these elements, k cells each. -/
def RdS (R : HP) (k : Nat) (v : Value) (xs : List (List Value)) : Prop := (∀ x ∈ xs, x.length = k) ∧
  ((xs = [] ∧ ∃ a c, v = .slice a 0 c) ∨ ∃ b o c, v = .slice (some ⟨b, o, none⟩) xs.length c ∧ ∀ h, R h → ∃ arr T fz, h b = some (.cells arr T fz) ∧ (arr.toList.drop o).take (xs.length * k) = xs.flatten)

theorem flat_at {k : Nat} : ∀ {xs : List (List Value)} {i : Nat} {x : List Value}, (∀ x ∈ xs, x.length = k) → xs[i]? = some x → (xs.flatten.drop (i * k)).take k = x ∧ i * k + k ≤ xs.flatten.length
  | [], i, x, _, h => by simp at h
  | y :: xs, 0, x, hk, h => by
    simp only [List.getElem?_cons_zero, Option.some.injEq] at h
    subst h
    have := hk y (by simp)
    refine ⟨?_, by simp [this]⟩
    rw [Nat.zero_mul, List.drop_zero, List.flatten_cons, ← this, List.take_left']
    rfl
  | y :: xs, i + 1, x, hk, h => by
    simp only [List.getElem?_cons_succ] at h
    obtain ⟨h1, h2⟩ := flat_at (fun x hx => hk x (by simp [hx])) h
    have hy := hk y (by simp)
    have e1 : (i + 1) * k = y.length + i * k := by rw [hy, Nat.add_mul]; omega
    refine ⟨?_, ?_⟩
    · rw [e1, List.flatten_cons, List.drop_append]
      simp only [Nat.add_sub_cancel_left]
      rw [List.drop_eq_nil_of_le (by omega), List.nil_append]
      exact h1
    · rw [e1, List.flatten_cons, List.length_append]; omega

theorem RdS.at {R : HP} {k : Nat} {b o c len : Nat} {xs : List (List Value)} (h : RdS R k (.slice (some ⟨b, o, none⟩) len c) xs) (hk0 : 0 < k) {i : Nat} {x : List Value} (hi : xs[i]? = some x) :
    ∀ h, R h → ∃ arr T fz, h b = some (.cells arr T fz) ∧ atCells (some k) arr.toList (o + i * k) = some (.agg x.toArray) := by
  obtain ⟨hk, h⟩ := h
  rcases h with ⟨rfl, _⟩ | ⟨b', o', c', he, hR⟩
  · simp at hi
  · simp only [Value.slice.injEq, Option.some.injEq, Addr.mk.injEq] at he
    obtain ⟨⟨rfl, rfl, _⟩, rfl, rfl⟩ := he
    intro g hg
    obtain ⟨arr, T, fz, h1, h2⟩ := hR g hg
    obtain ⟨h3, h4⟩ := flat_at hk hi
    refine ⟨arr, T, fz, h1, ?_⟩
    rw [← h2] at h3 h4
    simp only [List.length_take, List.length_drop] at h4
    rw [List.drop_take, List.take_take, List.drop_drop] at h3
    have e1 : min k (xs.length * k - i * k) = k := by omega
    rw [e1] at h3
    simp only [atCells]
    have h5 : 0 < arr.toList.length - o := by omega
    rw [if_pos (by omega), h3]
theorem RdS.at1 {R : HP} {b o c len : Nat} {xs : List (List Value)} (h : RdS R 1 (.slice (some ⟨b, o, none⟩) len c) xs) {i : Nat} {v : Value} (hi : xs[i]? = some [v]) :
    ∀ h, R h → ∃ arr T fz, h b = some (.cells arr T fz) ∧ atCells none arr.toList (o + i * 1) = some v := by
  intro g hg
  obtain ⟨arr, T, fz, h1, h2⟩ := h.at (by decide) hi g hg
  refine ⟨arr, T, fz, h1, ?_⟩
  simp only [atCells] at h2 ⊢
  split at h2
  · rename_i hle
    simp only [Option.some.injEq, Value.agg.injEq] at h2
    have h3 := congrArg Array.toList h2
    simp only at h3
    have h4 := congrArg (·[0]?) h3
    simp only [List.getElem?_take, List.getElem?_drop] at h4
    simpa using h4
  · cases h2
theorem RdS.len {R : HP} {k : Nat} {v : Value} {xs : List (List Value)} (h : RdS R k v xs) : ∃ a c, v = .slice a xs.length c := by
  obtain ⟨_, ⟨rfl, a, c, rfl⟩ | ⟨b, o, c, rfl, _⟩⟩ := h
  · exact ⟨a, c, rfl⟩
  · exact ⟨_, c, rfl⟩
theorem RdS.ptr {R : HP} {k : Nat} {a : Option Addr} {len c : Nat} {xs : List (List Value)} (h : RdS R k (.slice a len c) xs) (hp : 0 < xs.length) : ∃ b o, a = some ⟨b, o, none⟩ ∧ len = xs.length := by
  obtain ⟨_, ⟨rfl, _⟩ | ⟨b, o, c, he, _⟩⟩ := h
  · simp at hp
  · simp only [Value.slice.injEq] at he; exact ⟨b, o, he.1, he.2.1⟩

theorem rds_cl {b T k c : Nat} {xs : List (List Value)} (hk : ∀ x ∈ xs, x.length = k) : RdS (Cl b T xs.flatten) k (.slice (some ⟨b, 0, none⟩) xs.length c) xs := by
  refine ⟨hk, .inr ⟨b, 0, c, rfl, fun h hh => ⟨_, T, (0, 0), hh, ?_⟩⟩⟩
  have : xs.flatten.length = xs.length * k := by
    clear hh
    induction xs with
    | nil => simp
    | cons x xs ih => rw [List.flatten_cons, List.length_append, ih fun x hx => hk x (by simp [hx]), hk x (by simp), List.length_cons, Nat.add_mul]; omega
  show (List.drop 0 (xs.flatten.toArray).toList).take _ = _
  rw [List.drop_zero, List.toList_toArray]
  exact List.take_of_length_le (Nat.le_of_eq this)
end
end Go.Dv
