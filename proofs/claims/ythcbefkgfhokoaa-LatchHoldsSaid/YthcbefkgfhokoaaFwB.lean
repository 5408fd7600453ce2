import Derived.Test.YthcbefkgfhokoaaFwA
import Derived.Scope
namespace Go.Dv
open Go

inductive MC where
  | skip
  | reg (t : MT)
  | seq (a b : MC)
  | cond (c : Operand) (a b : MC)
  | block (id : Nat) (b : MC)
  | loop (b : MC)
  | exit (id : Nat)
  | scope (b : MC)
  | label (l : Nat)
  | goto (l : Nat)
  | ret

def trC (P : Program) (n : Nat) : Code → Option MC
  | .skip => some .skip
  | .region _ ops draw => bif dstOk n ops then
      (bif draw then (bif Region.noSelect ops then (mkT P ops (effMask P ops) ops.size (Array.replicate ops.size false)).map MC.reg else none)
       else (seqT P ops (List.range ops.size)).map MC.reg)
    else none
  | .seq a b => match trC P n a, trC P n b with
    | some x, some y => some (.seq x y)
    | _, _ => none
  | .cond c a b => match trC P n a, trC P n b with
    | some x, some y => some (.cond c x y)
    | _, _ => none
  | .block id b => (trC P n b).map (.block id)
  | .loop b => (trC P n b).map .loop
  | .exit id => some (.exit id)
  | .scope b => (trC P n b).map .scope
  | .label l => some (.label l)
  | .goto l => some (.goto l)
  | .ret => some .ret
  | .rangeFunc .. => none
  | .refuse _ => none

abbrev Kx := Exit → Env → PH → Prop
def exQ (n : Nat) (gl : Gl) (K : Kx) : Exit → Act → World → Prop := fun x a w => ∃ e, Ag n e a ∧ okG gl w ∧ K x e (hw w)
def HM (P : Program) (n : Nat) (gl : Gl) (m : MC) (K : Kx) (e : Env) (h : PH) : Prop :=
  ∀ c, trC P n c = some m → ∀ a w, Ag n e a → hw w = h → okG gl w → c.wp P (exQ n gl K) a w
def seqK (k : Env → PH → Prop) (K : Kx) : Kx
  | .normal => k
  | x => K x
def blockK (id : Nat) (K : Kx) : Kx
  | .exit i => if i = id then K .normal else K (.exit i)
  | x => K x

section
variable {P : Program} {n : Nat} {gl : Gl} {K : Kx} {e : Env} {h : PH}

theorem tr_seq {c : Code} {x y : MC} (hc : trC P n c = some (.seq x y)) : ∃ a b, c = .seq a b ∧ trC P n a = some x ∧ trC P n b = some y := by
  cases c <;> simp only [trC] at hc
  case seq a b =>
    split at hc
    · rename_i x' y' h1 h2
      simp only [Option.some.injEq, MC.seq.injEq] at hc
      obtain ⟨rfl, rfl⟩ := hc
      exact ⟨a, b, rfl, h1, h2⟩
    · cases hc
  case region i ops d =>
    revert hc
    cases dstOk n ops <;> cases d <;> cases Region.noSelect ops <;> simp
  case cond => split at hc <;> cases hc
  all_goals (simp at hc)

theorem tr_reg {c : Code} {t : MT} (hc : trC P n c = some (.reg t)) : ∃ id ops d, c = .region id ops d ∧ dstOk n ops = true ∧
    ((d = true ∧ Region.noSelect ops = true ∧ mkT P ops (effMask P ops) ops.size (Array.replicate ops.size false) = some t) ∨ (d = false ∧ seqT P ops (List.range ops.size) = some t)) := by
  cases c <;> simp only [trC] at hc
  case region i ops d =>
    cases hd : dstOk n ops with
    | false => rw [hd] at hc; cases hc
    | true =>
      rw [hd] at hc
      cases d with
      | true =>
        simp only [cond_true] at hc
        cases hs : Region.noSelect ops with
        | false => rw [hs] at hc; cases hc
        | true =>
          rw [hs] at hc
          simp only [cond_true, Option.map_eq_some_iff, MC.reg.injEq, exists_eq_right] at hc
          exact ⟨i, ops, true, rfl, hd, .inl ⟨rfl, hs, hc⟩⟩
      | false =>
        simp only [cond_true, cond_false, Option.map_eq_some_iff, MC.reg.injEq, exists_eq_right] at hc
        exact ⟨i, ops, false, rfl, hd, .inr ⟨rfl, hc⟩⟩
  case seq => split at hc <;> cases hc
  case cond => split at hc <;> cases hc
  all_goals (simp at hc)

theorem tr_cond {c : Code} {o : Operand} {x y : MC} (hc : trC P n c = some (.cond o x y)) : ∃ a b, c = .cond o a b ∧ trC P n a = some x ∧ trC P n b = some y := by
  cases c <;> simp only [trC] at hc
  case cond o' a b =>
    split at hc
    · rename_i x' y' h1 h2
      simp only [Option.some.injEq, MC.cond.injEq] at hc
      obtain ⟨rfl, rfl, rfl⟩ := hc
      exact ⟨a, b, rfl, h1, h2⟩
    · cases hc
  case region i ops d =>
    revert hc
    cases dstOk n ops <;> cases d <;> cases Region.noSelect ops <;> simp
  case seq => split at hc <;> cases hc
  all_goals (simp at hc)

theorem tr_simple {c : Code} {m : MC} (hc : trC P n c = some m) :
    (m = .skip → c = .skip) ∧ (m = .ret → c = .ret) ∧ (∀ i, m = .exit i → c = .exit i) ∧ (∀ i, m = .label i → c = .label i) ∧ (∀ i, m = .goto i → c = .goto i) ∧
    (∀ i b, m = .block i b → ∃ b', c = .block i b' ∧ trC P n b' = some b) ∧ (∀ b, m = .loop b → ∃ b', c = .loop b' ∧ trC P n b' = some b) ∧ (∀ b, m = .scope b → ∃ b', c = .scope b' ∧ trC P n b' = some b) := by
  cases c <;> simp only [trC] at hc
  case region i ops d =>
    have hreg : ∃ t, m = .reg t := by
      revert hc
      cases dstOk n ops <;> cases d <;> cases Region.noSelect ops <;> simp <;> (intro t _ ht; exact ⟨t, ht.symm⟩)
    obtain ⟨t, rfl⟩ := hreg
    simp
  case seq => split at hc <;> first | (cases hc; done) | (simp only [Option.some.injEq] at hc; subst hc; simp)
  case cond => split at hc <;> first | (cases hc; done) | (simp only [Option.some.injEq] at hc; subst hc; simp)
  all_goals first
    | (cases hc; done)
    | (simp only [Option.some.injEq] at hc; subst hc; simp; done)
    | (rw [Option.map_eq_some_iff] at hc; obtain ⟨t, ht, rfl⟩ := hc; simp [ht])

theorem hm_skip (hk : K .normal e h) : HM P n gl .skip K e h := by
  rintro c hc a w ha rfl hg
  obtain rfl := (tr_simple hc).1 rfl
  exact wp_skip ⟨e, ha, hg, hk⟩
theorem hm_ret (hk : K .ret e h) : HM P n gl .ret K e h := by
  rintro c hc a w ha rfl hg
  obtain rfl := (tr_simple hc).2.1 rfl
  exact wp_ret ⟨e, ha, hg, hk⟩
theorem hm_exit {i : Nat} (hk : K (.exit i) e h) : HM P n gl (.exit i) K e h := by
  rintro c hc a w ha rfl hg
  obtain rfl := (tr_simple hc).2.2.1 i rfl
  exact wp_exit ⟨e, ha, hg, hk⟩
theorem hm_label {i : Nat} (hk : K .normal e h) : HM P n gl (.label i) K e h := by
  rintro c hc a w ha rfl hg
  obtain rfl := (tr_simple hc).2.2.2.1 i rfl
  exact wp_label ⟨e, ha, hg, hk⟩
theorem hm_goto {i : Nat} (hk : K (.goto i) e h) : HM P n gl (.goto i) K e h := by
  rintro c hc a w ha rfl hg
  obtain rfl := (tr_simple hc).2.2.2.2.1 i rfl
  exact wp_goto ⟨e, ha, hg, hk⟩
theorem hm_mono {m : MC} {K' : Kx} (hk : ∀ x e h, K' x e h → K x e h) (hm : HM P n gl m K' e h) : HM P n gl m K e h :=
  fun c hc a w ha hh hg => wp_mono (hm c hc a w ha hh hg) fun _ _ _ ⟨e, h1, h2, h3⟩ => ⟨e, h1, h2, hk _ _ _ h3⟩
theorem hm_seq {x y : MC} (hm : HM P n gl x (seqK (HM P n gl y K) K) e h) : HM P n gl (.seq x y) K e h := by
  rintro c hc a w ha rfl hg
  obtain ⟨cx, cy, rfl, hx, hy⟩ := tr_seq hc
  refine wp_seq (wp_mono (hm cx hx a w ha rfl hg) ?_)
  rintro ex a' w' ⟨e', ha', hg', hk⟩
  cases ex with
  | normal => exact hk cy hy a' w' ha' rfl hg'
  | _ => exact ⟨e', ha', hg', hk⟩
theorem hm_cond {o : Operand} {x y : MC} {b : Bool} (ho : ev e o = some (.bool b)) (h1 : b = true → HM P n gl x K e h) (h2 : b = false → HM P n gl y K e h) : HM P n gl (.cond o x y) K e h := by
  rintro c hc a w ha rfl hg
  obtain ⟨cx, cy, rfl, hx, hy⟩ := tr_cond hc
  exact wp_cond_split (ha.agr _ _ ho) (fun hb => h1 hb cx hx a w ha rfl hg) (fun hb => h2 hb cy hy a w ha rfl hg)
theorem hm_block {i : Nat} {b : MC} (hm : HM P n gl b (blockK i K) e h) : HM P n gl (.block i b) K e h := by
  rintro c hc a w ha rfl hg
  obtain ⟨b', rfl, hb⟩ := (tr_simple hc).2.2.2.2.2.1 i b rfl
  refine wp_block (wp_mono (hm b' hb a w ha rfl hg) ?_)
  rintro ex a' w' ⟨e', ha', hg', hk⟩
  cases ex with
  | exit j =>
    simp only [Exit.inBlock, blockK] at hk ⊢
    split
    · rename_i hj; rw [if_pos hj] at hk; exact ⟨e', ha', hg', hk⟩
    · rename_i hj; rw [if_neg hj] at hk; exact ⟨e', ha', hg', hk⟩
  | _ => exact ⟨e', ha', hg', hk⟩

theorem wp_loop_g {α : Type} {Q : Exit → Act → World → Prop} {c : Code} (I : α → Act → World → Prop) (μ : α → Nat)
    (round : ∀ x a w, I x a w → c.wp P (Exit.then (fun a' w' => ∃ y, μ y < μ x ∧ I y a' w') Q) a w) (x : α) (a : Act) (w : World) (h₀ : I x a w) : (Code.loop c).wp P Q a w := by
  intro b k cs
  have key : ∀ n x a w, μ x = n → I x a w →
      ∃ e a' w', Q e a' w' ∧ Arrives P (lone (b.at a (.code c :: .inLoop c :: k)) cs w) b k cs e a' w' := by
    intro n
    induction n using Nat.strongRecOn with
    | _ n ih =>
      intro x a w hn hI
      obtain ⟨e, a₁, w₁, hq, harr⟩ := round x a w hI b (.inLoop c :: k) cs
      cases e with
      | normal =>
        obtain ⟨y, hlt, hI₁⟩ := hq
        obtain ⟨e₂, a₂, w₂, hq₂, harr₂⟩ := ih (μ y) (hn ▸ hlt) y a₁ w₁ rfl hI₁
        exact ⟨e₂, a₂, w₂, hq₂, .of_steps (Steps.trans harr (.one step_inLoop)) harr₂⟩
      | exit id => exact ⟨_, a₁, w₁, hq, .pass (x := .inLoop c) rfl (fun _ _ => .inl (by simp)) harr⟩
      | goto l => exact ⟨_, a₁, w₁, hq, .pass (x := .inLoop c) rfl (fun _ _ => .inl (by simp)) harr⟩
      | ret => exact ⟨_, a₁, w₁, hq, .pass (x := .inLoop c) rfl (fun _ _ => .inl (by simp)) harr⟩
      | panic ch => exact ⟨_, a₁, w₁, hq, .pass (x := .inLoop c) rfl (fun _ _ => .inl (by simp)) harr⟩
      | outgrown => exact ⟨_, a₁, w₁, hq, .pass (x := .inLoop c) rfl (fun _ _ => .inl (by simp)) harr⟩
  obtain ⟨e, a', w', hq, harr⟩ := key _ x a w rfl h₀
  exact ⟨e, a', w', hq, .of_steps (.one step_loop) harr⟩

theorem hm_loop {α : Type} {b : MC} (I : α → Env → PH → Prop) (μ : α → Nat) (x0 : α) (h0 : I x0 e h)
    (round : ∀ x e h, I x e h → HM P n gl b (seqK (fun e' h' => ∃ y, μ y < μ x ∧ I y e' h') K) e h) : HM P n gl (.loop b) K e h := by
  rintro c hc a w ha rfl hg
  obtain ⟨b', rfl, hb⟩ := (tr_simple hc).2.2.2.2.2.2.1 b rfl
  refine wp_loop_g (fun x a w => ∃ e, Ag n e a ∧ okG gl w ∧ I x e (hw w)) μ ?_ x0 a w ⟨e, ha, hg, h0⟩
  rintro x a w ⟨e, ha, hg, hI⟩
  refine wp_mono (round x e _ hI b' hb a w ha rfl hg) ?_
  rintro ex a' w' ⟨e', ha', hg', hk⟩
  cases ex with
  | normal => obtain ⟨y, hlt, hy⟩ := hk; exact ⟨y, hlt, e', ha', hg', hy⟩
  | _ => exact ⟨e', ha', hg', hk⟩

theorem hm_reg {t : MT} (hm : P.follows .mixedOrders = true) (ht : HTh P gl (K .normal) t [] 0 e h) : HM P n gl (.reg t) K e h := by
  rintro c hc a w ha rfl hg
  obtain ⟨id, ops, d, rfl, hd, hor⟩ := tr_reg hc
  have hq : ∀ x a w, endQ n gl (K .normal) x a w → exQ n gl K x a w := by
    intro x a w hx
    cases x with
    | normal => obtain ⟨e, h1, h2, h3⟩ := hx; exact ⟨e, h1, h2, h3⟩
    | _ => exact hx.elim
  rcases hor with ⟨rfl, hs, htt⟩ | ⟨rfl, htt⟩
  · refine wp_mono (wp_region_any hm ?_) hq
    refine wpAny_of_S (S := Sp []) _ _ _ _ ?_
    refine mkT_sound hd hs ops.size _ t [] 0 e a _ htt ht ha ⟨hg.1, hg.2⟩ (by simp) (fun p hp => by cases hp) (fun p hp => by cases hp) (fun k hk => by simp at hk) ?_
    intro k j oj _ _ hj
    simp only [Array.getD_eq_getD_getElem?, Array.getElem?_replicate] at hj
    split at hj <;> simp at hj
  · exact wp_mono (wp_region (seq_sound hd _ t 0 e a w htt ht ha hg)) hq
end
end Go.Dv
