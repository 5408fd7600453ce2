import Derived.Test.YthcbefkgfhokoaaFwC
/- What lies in memory, part by part. -/
namespace Go.Dv
open Go

abbrev HP := PH → Prop
def Sep : List HP → PH → Prop
  | [], _ => True
  | p :: ps, h => ∃ h1 h2 : PH, (∀ b, h1 b = none ∨ h2 b = none) ∧ (∀ b, h b = (h1 b).or (h2 b)) ∧ p h1 ∧ Sep ps h2

inductive Pk : List HP → HP → List HP → Prop
  | h {x l} : Pk (x :: l) x l
  | t {x y l r} : Pk l x r → Pk (y :: l) x (y :: r)
inductive Sx : List HP → List HP → List HP → Prop
  | nil {l} : Sx l [] l
  | cons {l x r xs r'} : Pk l x r → Sx r xs r' → Sx l (x :: xs) r'

def Cl (b : Nat) (T : TypeId) (cs : List Value) : HP := fun h => h b = some (.cells cs.toArray T (0, 0))

theorem or_none {α : Type} (x : Option α) : x.or none = x := by cases x <;> rfl

theorem sep_swap {p q : HP} {l : List HP} {h : PH} (hs : Sep (p :: q :: l) h) : Sep (q :: p :: l) h := by
  obtain ⟨h1, h2, d, u, hp, h3, h4, d', u', hq, hl⟩ := hs
  refine ⟨h3, fun b => (h1 b).or (h4 b), fun b => ?_, fun b => ?_, hq, h1, h4, fun b => ?_, fun b => rfl, hp, hl⟩
  · have a1 := d b; have a2 := d' b; have a3 := u' b
    rw [a3] at a1
    cases e1 : h1 b <;> cases e3 : h3 b <;> cases e4 : h4 b <;> simp_all
  · have a1 := d b; have a2 := d' b; have a3 := u' b; have a4 := u b
    rw [a4, a3]
    rw [a3] at a1
    cases e1 : h1 b <;> cases e3 : h3 b <;> cases e4 : h4 b <;> simp_all
  · have a1 := d b; have a3 := u' b
    rw [a3] at a1
    cases e1 : h1 b <;> cases e3 : h3 b <;> cases e4 : h4 b <;> simp_all

theorem sep_tail {p : HP} {l l' : List HP} (hl : ∀ h, Sep l h → Sep l' h) {h : PH} (hs : Sep (p :: l) h) : Sep (p :: l') h := by
  obtain ⟨h1, h2, d, u, hp, hr⟩ := hs
  exact ⟨h1, h2, d, u, hp, hl _ hr⟩

theorem sep_drop {p : HP} {l : List HP} {h : PH} (hs : Sep (p :: l) h) : ∃ h', Sep l h' ∧ ∀ b o, h' b = some o → h b = some o := by
  obtain ⟨h1, h2, d, u, hp, hr⟩ := hs
  refine ⟨h2, hr, fun b o hb => ?_⟩
  have a1 := d b; have a4 := u b
  rw [hb] at a1 a4
  rcases a1 with a1 | a1
  · rw [a4, a1]; rfl
  · cases a1

theorem Pk.out {l r : List HP} {x : HP} (hp : Pk l x r) : ∀ {h}, Sep l h → Sep (x :: r) h := by
  induction hp with
  | h => intro h hs; exact hs
  | t _ ih => intro h hs; exact sep_swap (sep_tail (fun _ => ih) hs)
theorem Pk.back {l r : List HP} {x : HP} (hp : Pk l x r) : ∀ {h}, Sep (x :: r) h → Sep l h := by
  induction hp with
  | h => intro h hs; exact hs
  | t _ ih => intro h hs; exact sep_tail (fun _ => ih) (sep_swap hs)
theorem Sx.out {l xs r : List HP} (hx : Sx l xs r) : ∀ {h}, Sep l h → Sep (xs ++ r) h := by
  induction hx with
  | nil => intro h hs; exact hs
  | cons hp _ ih => intro h hs; exact sep_tail (fun _ => ih) (hp.out hs)
theorem sep_app_one {xs ys : List HP} : ∀ {h : PH}, Sep (xs ++ ys) h → Sep (xs ++ [Sep ys]) h := by
  induction xs with
  | nil => intro h hs; exact ⟨h, fun _ => none, fun b => .inr rfl, fun b => (or_none _).symm, hs, trivial⟩
  | cons x xs ih => intro h hs; exact sep_tail (fun _ => ih) hs
/-- a part of memory that is larger does no harm -/
theorem sep_mono : ∀ {l : List HP} {h h' : PH}, Sep l h → (∀ b o, h b = some o → h' b = some o) → Sep l h'
  | [], _, _, _, _ => trivial
  | p :: l, h, h', ⟨h1, h2, d, u, hp, hl⟩, hs => by
    refine ⟨h1, fun b => if (h1 b).isSome then none else h' b, fun b => ?_, fun b => ?_, hp, sep_mono hl ?_⟩
    · cases e : h1 b <;> simp [e]
    · cases e : h1 b with
      | none => simp [e]
      | some o =>
        have := u b
        rw [e] at this
        simpa [e] using hs b o (by rw [this]; rfl)
    · intro b o hb
      have hd := d b
      rw [hb] at hd
      have h1n : h1 b = none := by rcases hd with hd | hd; exact hd; cases hd
      have := u b
      rw [h1n, hb] at this
      simp [h1n, hs b o this]
theorem sep_one_sub {xs ys : List HP} : ∀ {h : PH}, Sep (xs ++ [Sep ys]) h → ∃ h', Sep (xs ++ ys) h' ∧ ∀ b o, h' b = some o → h b = some o := by
  induction xs with
  | nil =>
    intro h hs
    obtain ⟨h1, h2, d, u, hp, _⟩ := hs
    refine ⟨h1, hp, fun b o hb => ?_⟩
    rw [u b, hb]; rfl
  | cons x xs ih =>
    intro h hs
    obtain ⟨h1, h2, d, u, hp, hr⟩ := hs
    obtain ⟨h', hs', hsub⟩ := ih hr
    refine ⟨fun b => (h1 b).or (h' b), ⟨h1, h', fun b => ?_, fun b => rfl, hp, hs'⟩, fun b o hb => ?_⟩
    · cases e : h' b with
      | none => exact .inr rfl
      | some o =>
        have := hsub b o e
        rcases d b with hd | hd
        · exact .inl hd
        · rw [this] at hd; cases hd
    · rw [u b]
      replace hb : (h1 b).or (h' b) = some o := hb
      cases e1 : h1 b with
      | none =>
        rw [e1] at hb
        simp only [Option.none_or] at hb ⊢
        exact hsub b o hb
      | some o' => rw [e1] at hb; simpa using hb
theorem sep_one_app {xs ys : List HP} {h : PH} (hs : Sep (xs ++ [Sep ys]) h) : Sep (xs ++ ys) h := by
  obtain ⟨h', h1, h2⟩ := sep_one_sub hs
  exact sep_mono h1 h2
theorem sep_right {xs ys : List HP} {h : PH} (hs : Sep (xs ++ ys) h) : Sep ys h := by
  induction xs generalizing h with
  | nil => exact hs
  | cons x xs ih =>
    obtain ⟨h', h1, h2⟩ := sep_drop hs
    exact sep_mono (ih h1) h2
theorem sep_left {xs ys : List HP} : ∀ {h : PH}, Sep (xs ++ ys) h → Sep xs h := by
  induction xs with
  | nil => intro h _; trivial
  | cons x xs ih => intro h hs; exact sep_tail (fun _ => ih) hs

/-! ### single blocks -/
theorem Cl_get {b : Nat} {T : TypeId} {cs : List Value} {l : List HP} {h : PH} (hs : Sep (Cl b T cs :: l) h) : h b = some (.cells cs.toArray T (0, 0)) := by
  obtain ⟨h1, h2, d, u, hp, _⟩ := hs
  rw [u b, show h1 b = _ from hp]; rfl
theorem Cl_set {b : Nat} {T : TypeId} {cs cs' : List Value} {l : List HP} {h h' : PH} (hs : Sep (Cl b T cs :: l) h) (hb : h' b = some (.cells cs'.toArray T (0, 0))) (ho : ∀ k, k ≠ b → h' k = h k) :
    Sep (Cl b T cs' :: l) h' := by
  obtain ⟨h1, h2, d, u, hp, hr⟩ := hs
  have hp' : h1 b = some (.cells cs.toArray T (0, 0)) := hp
  have h2b : h2 b = none := by rcases d b with h | h; rw [hp'] at h; cases h; exact h
  refine ⟨fun k => if k = b then some (.cells cs'.toArray T (0, 0)) else h1 k, h2, fun k => ?_, fun k => ?_, by simp [Cl], hr⟩
  · by_cases hk : k = b
    · subst hk; exact .inr h2b
    · simp only [if_neg hk]; exact d k
  · by_cases hk : k = b
    · subst hk; simp [hb]
    · simp only [if_neg hk]; rw [ho k hk]; exact u k
theorem sep_new {b : Nat} {x : HP} {o : Obj} {l : List HP} {h h' : PH} (hs : Sep l h) (hn : h b = none) (hb : h' b = some o) (ho : ∀ k, k ≠ b → h' k = h k) (hx : x (fun k => if k = b then some o else none)) : Sep (x :: l) h' := by
  refine ⟨_, h, fun k => ?_, fun k => ?_, hx, hs⟩
  · by_cases hk : k = b
    · subst hk; exact .inr hn
    · left; simp [hk]
  · by_cases hk : k = b
    · subst hk; simp [hb]
    · simp [hk, ho k hk]
theorem Cl_ne {b b' : Nat} {T T' : TypeId} {cs cs' : List Value} {l : List HP} {h : PH} (hs : Sep (Cl b T cs :: Cl b' T' cs' :: l) h) : b ≠ b' := by
  rintro rfl
  obtain ⟨h1, h2, d, u, hp, hr⟩ := hs
  have e1 : h1 b = some (.cells cs.toArray T (0, 0)) := hp
  have e2 := Cl_get hr
  rcases d b with h | h
  · rw [e1] at h; cases h
  · rw [e2] at h; cases h

/-- a part that is several parts -/
theorem sep_flat {x : HP} {ys r : List HP} {h : PH} (o : ∀ h, x h → Sep ys h) (hs : Sep (x :: r) h) : Sep (ys ++ r) h := by
  have h1 : Sep (Sep ys :: r) h := by
    obtain ⟨h1, h2, d, u, hx, hr⟩ := hs
    exact ⟨h1, h2, d, u, o h1 hx, hr⟩
  have key : ∀ (ys : List HP) (h1 h2 : PH), Sep ys h1 → (∀ b, h1 b = none ∨ h2 b = none) → Sep r h2 → Sep (ys ++ r) (fun b => (h1 b).or (h2 b)) := by
    intro ys
    induction ys with
    | nil =>
      intro h1 h2 _ d hr
      refine sep_mono hr fun b o hb => ?_
      rcases d b with hd | hd
      · simp [hd, hb]
      · rw [hd] at hb; cases hb
    | cons y ys ih =>
      intro h1 h2 ⟨g1, g2, d', u', hy, hys⟩ d hr
      have d2 : ∀ b, g2 b = none ∨ h2 b = none := fun b => by
        rcases d b with hd | hd
        · rw [u' b] at hd
          cases e1 : g1 b <;> rw [e1] at hd <;> simp at hd
          exact .inl hd
        · exact .inr hd
      refine ⟨g1, fun b => (g2 b).or (h2 b), fun b => ?_, fun b => ?_, hy, ih g2 h2 hys d2 hr⟩
      · cases e1 : g1 b with
        | none => exact .inl rfl
        | some o =>
          have a1 := d' b; rw [e1] at a1
          have a2 := d b; rw [u' b, e1] at a2
          simp at a1 a2
          simp [a1, a2]
      · show (h1 b).or (h2 b) = (g1 b).or ((g2 b).or (h2 b))
        rw [u' b]
        cases g1 b <;> simp
  obtain ⟨h1', h2', d, u, hy, hr⟩ := h1
  have := key ys h1' h2' hy d hr
  have e : (fun b => (h1' b).or (h2' b)) = h := by funext b; exact (u b).symm
  rwa [e] at this
/-- several parts that are one -/
theorem sep_fold {x : HP} {ys r : List HP} {h : PH} (o : ∀ h, Sep ys h → x h) (hs : Sep (ys ++ r) h) : Sep (x :: r) h := by
  have key : ∀ (ys : List HP) (h : PH), Sep (ys ++ r) h → Sep (Sep ys :: r) h := by
    intro ys
    induction ys with
    | nil => intro h hs; exact ⟨fun _ => none, h, fun b => .inl rfl, fun b => by simp, trivial, hs⟩
    | cons y ys ih =>
      intro h hs
      have h1 : Sep (y :: Sep ys :: r) h := sep_tail (fun _ => ih _) hs
      obtain ⟨g1, g2, d, u, hy, k1, k2, d', u', hys, hr⟩ := h1
      refine ⟨fun b => (g1 b).or (k1 b), k2, fun b => ?_, fun b => ?_, ⟨g1, k1, fun b => ?_, fun b => rfl, hy, hys⟩, hr⟩
      · have a1 := d b; have a2 := d' b; rw [u' b] at a1
        cases e1 : g1 b <;> cases e2 : k1 b <;> cases e3 : k2 b <;> simp_all
      · rw [u b, u' b]
        show (g1 b).or ((k1 b).or (k2 b)) = ((g1 b).or (k1 b)).or (k2 b)
        cases e1 : g1 b <;> simp
      · have a1 := d b; rw [u' b] at a1
        cases e1 : g1 b <;> cases e2 : k1 b <;> simp_all
  obtain ⟨h1, h2, d, u, hy, hr⟩ := key ys h hs
  exact ⟨h1, h2, d, u, o h1 hy, hr⟩
end Go.Dv
