import Derived.Test.YthcbefkgfhokoaaFwF
import Derived.Maps.Keyed
import Derived.Maps.Own
import Derived.DeepKeys5
/- Maps of the call's own. -/
namespace Go.Dv
open Go Go.ChangeMaps Go.MapKept

def keyOk (P : Program) (k : TypeId) (v : Value) : Prop := ∃ kl, keyOf P k v = some kl
/-- The block b is a map with these entries, each key once. -/
def MpO (P : Program) (k : TypeId) (b : Nat) (l : List (Value × Value)) : HP := fun h => ∃ (es : Array MapEntry) (clock : Nat), h b = some (.map es clock) ∧ es.toList.map (fun x => (x.key, x.val)) = l ∧
  (∀ x ∈ l, keyOk P k x.1) ∧ l.Pairwise fun x y => x.1 ≠ y.1

theorem MpO_get {P : Program} {k : TypeId} {b : Nat} {l : List (Value × Value)} {r : List HP} {h : PH} (hs : Sep (MpO P k b l :: r) h) : MpO P k b l h := by
  obtain ⟨h1, h2, d, u, ⟨es, c, hb, hl, hk, hd⟩, _⟩ := hs
  exact ⟨es, c, by rw [u b, hb]; rfl, hl, hk, hd⟩
theorem MpO_set {P : Program} {k : TypeId} {b : Nat} {l l' : List (Value × Value)} {r : List HP} {h h' : PH} (hs : Sep (MpO P k b l :: r) h) (hb : MpO P k b l' h') (ho : ∀ j, j ≠ b → h' j = h j) : Sep (MpO P k b l' :: r) h' := by
  obtain ⟨h1, h2, d, u, ⟨es, c, hb1, hl, hk, hd⟩, hr⟩ := hs
  obtain ⟨es', c', hb', hl', hk', hd'⟩ := hb
  have h2b : h2 b = none := by
    rcases d b with h | h
    · rw [hb1] at h; cases h
    · exact h
  refine ⟨fun j => if j = b then some (.map es' c') else h1 j, h2, fun j => ?_, fun j => ?_, ⟨es', c', if_pos rfl, hl', hk', hd'⟩, hr⟩
  · by_cases hj : j = b
    · subst hj; exact .inr h2b
    · simp only [if_neg hj]; exact d j
  · by_cases hj : j = b
    · subst hj; rw [hb']; simp
    · rw [ho j hj, u j]; simp [hj]

theorem hw_setBlock {w : World} {b : Nat} {o o' : Obj} (h : hw w b = some o) : hw (setBlock w b o') b = some o' := by
  unfold hw setBlock at *
  simp only
  rw [Array.getElem?_setIfInBounds_self]
  have : b < w.heap.size := by
    rw [Array.getElem?_eq_some_iff] at h; exact h.1
  simp [this]
theorem hw_setBlock_ne {w : World} {b j : Nat} {o' : Obj} (h : j ≠ b) : hw (setBlock w b o') j = hw w j := by
  unfold hw setBlock
  simp only
  rw [Array.getElem?_setIfInBounds_ne (Ne.symm h)]

section
variable {P : Program} {gl : Gl} {n : Nat} {aa r : List HP} {J : PH → Prop} {e : Env} {K : Kx} {k : Env → PH → Prop}

theorem t_mkm {d : Option Nat} {g : Option (Nat × Bool)} {t : MT} {pend : Pn} {D i : Nat} (kt : TypeId) {ty mt : TypeId}
    (hg : gdv e g = some true)
    (mm : ∀ b, Rk pend (D ||| 2 ^ i) (MpO P kt b [] :: aa) ∧ En (MpO P kt b [] :: aa) (HTh P gl k t pend (D ||| 2 ^ i) (put e d (.map (some b))))) :
    En aa (HTh P gl k (.ef d g i (.raw ⟨none, .makeMap mt none, ty, "", #[], none⟩) t) pend D e) := by
  refine t_raw (R := fun v' aa' => ∃ b, v' = .map (some b) ∧ aa' = MpO P kt b [] :: aa) hg (by simp [Op.operands, known]) (by simp) ?_ (by rintro v' _ ⟨b, rfl, rfl⟩; exact mm b)
  intro w hs hG
  have hmk : (Instr.makeMap mt none).run P w = .ok (.map (some w.heap.size)) (w.alloc (.map #[] 0)) := rfl
  refine ⟨_, w.alloc (.map #[] 0), _, .inl (by simp [execOp, hmk]), ⟨hG.1, hG.2⟩, ?_, w.heap.size, rfl, rfl⟩
  exact sep_new hs hw_top hw_alloc (fun k hk => hw_alloc_ne hk) ⟨#[], 0, if_pos rfl, rfl, by simp, List.Pairwise.nil⟩

theorem keys_ok {kt : TypeId} {l : List (Value × Value)} {es : Array MapEntry} (hl : es.toList.map (fun x => (x.key, x.val)) = l) (hk : ∀ x ∈ l, keyOk P kt x.1) : ∀ x ∈ es.toList, ∃ kl, keyOf P kt x.key = some kl := by
  intro x hx
  exact hk (x.key, x.val) (by rw [← hl]; exact List.mem_map.2 ⟨x, hx, rfl⟩)

theorem key_once {l : List (Value × Value)} (hd : l.Pairwise fun x y => x.1 ≠ y.1) {a v v' : Value} (h1 : (a, v) ∈ l) (h2 : (a, v') ∈ l) : v = v' := by
  induction l with
  | nil => cases h1
  | cons x l ih =>
    obtain ⟨h3, h4⟩ := List.pairwise_cons.1 hd
    rcases List.mem_cons.1 h1 with h1 | h1
    · rcases List.mem_cons.1 h2 with h2 | h2
      · have := h1.trans h2.symm
        simpa using this
      · exact absurd (by rw [← h1]) (h3 _ h2)
    · rcases List.mem_cons.1 h2 with h2 | h2
      · exact absurd (by rw [← h2]) (h3 _ h1)
      · exact ih h4 h1 h2
theorem look_run {kt et mt : TypeId} {b : Nat} {l : List (Value × Value)} {kv v z : Value} {w : World} (KK : Maps.Keyed P kt) (ht : P.underlying mt = some (.map kt et)) (hz : (zeroValue et).run P w = .ok z w) (hkey : keyOk P kt kv)
    (hm : MpO P kt b l (hw w)) (hv : ((∀ x ∈ l, x.1 ≠ kv) ∧ v = z) ∨ (kv, v) ∈ l) : (Instr.lookup mt (.map (some b)) kv false).run P w = .ok v w := by
  obtain ⟨es, clock, hb, hl, hk, hd⟩ := hm
  obtain ⟨kl, hkl⟩ := hkey
  have hb' : w.heap[b]? = some (.map es clock) := hb
  rcases KK.find w hkl es.toList (keys_ok hl hk) with ⟨h1, h2⟩ | ⟨j, e0, h1, h2, h3⟩
  · rcases hv with ⟨_, rfl⟩ | hv
    · simp [Instr.lookup, run_underlying ht, MapKept.run_getObj_map hb', KK.check w _ hkl, h1, hz, Result.andThen]
    · rw [← hl] at hv
      obtain ⟨x, hx, hxe⟩ := List.mem_map.1 hv
      simp only [Prod.mk.injEq] at hxe
      exact absurd hxe.1 (h2 x hx)
  · have hmem : (kv, e0.val) ∈ l := by
      rw [← hl, ← h3]; exact List.mem_map.2 ⟨e0, List.mem_of_getElem? h2, rfl⟩
    rcases hv with ⟨hv, _⟩ | hv
    · exact absurd rfl (hv _ hmem)
    · have : v = e0.val := by
        exact key_once hd hv hmem
      subst this
      simp [Instr.lookup, run_underlying ht, MapKept.run_getObj_map hb', KK.check w _ hkl, h1, Result.andThen]

theorem look_rv {kt et mt ty : TypeId} {x y : Operand} {b : Nat} {l : List (Value × Value)} {kv v z : Value} (KK : Maps.Keyed P kt) (ht : P.underlying mt = some (.map kt et)) (hz : ∀ w : World, (zeroValue et).run P w = .ok z w)
    (hx : ev e x = some (.map (some b))) (hy : ev e y = some kv) (hkey : keyOk P kt kv) (pk : Pk aa (MpO P kt b l) r) (hv : ((∀ x ∈ l, x.1 ≠ kv) ∧ v = z) ∨ (kv, v) ∈ l) :
    En aa (fun h => RV P h e (.raw ⟨none, .lookup mt x y false, ty, "", #[], none⟩) v) := by
  intro h hs
  refine ⟨⟨⟨_, hx⟩, ⟨_, hy⟩, trivial⟩, by simp, ?_⟩
  rintro w rfl
  have := look_run (w := w) KK ht (hz w) hkey (MpO_get (pk.out hs)) hv
  simp [execOp, evD, hx, hy, this]

theorem t_ups {d : Option Nat} {g : Option (Nat × Bool)} {t : MT} {pend : Pn} {D i : Nat} {kt et mt ty : TypeId} {x y z : Operand} {b : Nat} {l : List (Value × Value)} {kv v : Value} (KK : Maps.Keyed P kt) (ht : P.underlying mt = some (.map kt et))
    (hg : gdv e g = some true) (hx : ev e x = some (.map (some b))) (hy : ev e y = some kv) (hz : ev e z = some v) (hkey : keyOk P kt kv) (pk : Pk aa (MpO P kt b l) r) (hv : ∀ x ∈ l, x.1 ≠ kv)
    (mm : Rk pend (D ||| 2 ^ i) (MpO P kt b (l ++ [(kv, v)]) :: r) ∧ En (MpO P kt b (l ++ [(kv, v)]) :: r) (HTh P gl k t pend (D ||| 2 ^ i) (put e d undef))) :
    En aa (HTh P gl k (.ef d g i (.raw ⟨none, .mapUpdate mt x y z, ty, "", #[], none⟩) t) pend D e) := by
  refine t_raw (R := fun v' aa' => v' = undef ∧ aa' = MpO P kt b (l ++ [(kv, v)]) :: r) hg ⟨⟨_, hx⟩, ⟨_, hy⟩, ⟨_, hz⟩, trivial⟩ (by simp) ?_ (by rintro v' _ ⟨rfl, rfl⟩; exact mm)
  intro w hs hG
  have hs1 := pk.out hs
  obtain ⟨es, clock, hb, hl, hk, hd⟩ := MpO_get hs1
  obtain ⟨kl, hkl⟩ := hkey
  have hb' : w.heap[b]? = some (.map es clock) := hb
  rcases KK.find w hkl es.toList (keys_ok hl hk) with ⟨h1, h2⟩ | ⟨j, e0, h1, h2, h3⟩
  · have hrun : (Instr.mapUpdate mt (.map (some b)) kv v).run P w = .ok () (setBlock w b (.map (es.push ⟨kv, v, clock⟩) (clock + 1))) := by
      simp [Instr.mapUpdate, run_underlying ht, MapKept.run_getObj_map hb', KK.check w _ hkl, h1, MapKept.run_setObj_map _ hb', Result.andThen, setBlock]
    refine ⟨undef, setBlock w b (.map (es.push ⟨kv, v, clock⟩) (clock + 1)), _, .inr ⟨by simp [execOp, evD, hx, hy, hz, hrun], rfl⟩, ⟨hG.1, hG.2⟩, ?_, rfl, rfl⟩
    refine MpO_set hs1 ⟨_, _, hw_setBlock hb, ?_, ?_, ?_⟩ fun j hj => hw_setBlock_ne hj
    · simp [hl]
    · intro x hx
      rcases List.mem_append.1 hx with hx | hx
      · exact hk x hx
      · simp only [List.mem_singleton] at hx; subst hx; exact ⟨kl, hkl⟩
    · rw [List.pairwise_append]
      refine ⟨hd, List.pairwise_singleton _ _, ?_⟩
      intro a ha c hc
      simp only [List.mem_singleton] at hc; subst hc; exact hv a ha
  · exact absurd rfl (hv (kv, e0.val) (by rw [← hl, ← h3]; exact List.mem_map.2 ⟨e0, List.mem_of_getElem? h2, rfl⟩))

open Classical in
theorem erase_filter {l : List (Value × Value)} {j : Nat} {x : Value × Value} (hd : l.Pairwise fun x y => x.1 ≠ y.1) (hj : l[j]? = some x) : l.eraseIdx j = l.filter fun y => decide (y.1 ≠ x.1) := by
  induction l generalizing j with
  | nil => simp at hj
  | cons a l ih =>
    obtain ⟨h1, h2⟩ := List.pairwise_cons.1 hd
    cases j with
    | zero =>
      simp only [List.getElem?_cons_zero, Option.some.injEq] at hj
      subst hj
      simp only [List.eraseIdx_cons_zero, List.filter_cons, ne_eq, not_true_eq_false, decide_false, Bool.false_eq_true, if_false]
      symm
      rw [List.filter_eq_self]
      intro y hy
      simpa using fun h => h1 y hy h.symm
    | succ j =>
      simp only [List.getElem?_cons_succ] at hj
      have hx : x ∈ l := List.mem_of_getElem? hj
      simp only [List.eraseIdx_cons_succ, List.filter_cons]
      rw [if_pos (by simpa using h1 x hx), ih h2 hj]

open Classical in
theorem t_del {d : Option Nat} {g : Option (Nat × Bool)} {t : MT} {pend : Pn} {D i : Nat} {kt et mt ty : TypeId} {x y : Operand} {b : Nat} {l : List (Value × Value)} {kv : Value} (KK : Maps.Keyed P kt) (ht : P.underlying mt = some (.map kt et))
    (hg : gdv e g = some true) (hx : ev e x = some (.map (some b))) (hy : ev e y = some kv) (hkey : keyOk P kt kv) (pk : Pk aa (MpO P kt b l) r)
    (mm : Rk pend (D ||| 2 ^ i) (MpO P kt b (l.filter fun y => decide (y.1 ≠ kv)) :: r) ∧ En (MpO P kt b (l.filter fun y => decide (y.1 ≠ kv)) :: r) (HTh P gl k t pend (D ||| 2 ^ i) (put e d (.tuple #[])))) :
    En aa (HTh P gl k (.ef d g i (.raw ⟨none, .call ⟨.builtin .delete, #[x, y], #[mt, kt]⟩, ty, "", #[], none⟩) t) pend D e) := by
  refine t_raw (R := fun v' aa' => v' = .tuple #[] ∧ aa' = MpO P kt b (l.filter fun y => decide (y.1 ≠ kv)) :: r) hg ⟨⟨_, hx⟩, ⟨_, hy⟩, trivial⟩ (by simp) ?_ (by rintro v' _ ⟨rfl, rfl⟩; exact mm)
  intro w hs hG
  have hs1 := pk.out hs
  obtain ⟨es, clock, hb, hl, hk, hd⟩ := MpO_get hs1
  obtain ⟨kl, hkl⟩ := hkey
  have hb' : w.heap[b]? = some (.map es clock) := hb
  have hex : ∀ ww, (Builtin.delete_ #[mt, kt] ty #[.map (some b), kv]).run P w = .ok (.tuple #[]) ww → (execOp (evD e) ⟨none, .call ⟨.builtin .delete, #[x, y], #[mt, kt]⟩, ty, "", #[], none⟩).run P w = .ok (.value (.tuple #[])) ww := by
    intro ww hrun
    simp [execOp, resolve, evD, hx, hy, invoke, builtin, hrun]
  have hsubl : ∀ x ∈ l.filter (fun y => decide (y.1 ≠ kv)), keyOk P kt x.1 := fun x hx => hk x (List.mem_filter.1 hx).1
  rcases KK.find w hkl es.toList (keys_ok hl hk) with ⟨h1, h2⟩ | ⟨j, e0, h1, h2, h3⟩
  · have hrun : (Builtin.delete_ #[mt, kt] ty #[.map (some b), kv]).run P w = .ok (.tuple #[]) (setBlock w b (.map es clock)) := by
      simp [Builtin.delete_, run_underlying ht, MapKept.run_getObj_map hb', KK.check w _ hkl, h1, MapKept.run_setObj_map _ hb', Result.andThen, setBlock]
    refine ⟨_, setBlock w b (.map es clock), _, .inl (hex _ hrun), ⟨hG.1, hG.2⟩, ?_, rfl, rfl⟩
    have e1 : l.filter (fun y => decide (y.1 ≠ kv)) = l := by
      rw [List.filter_eq_self]
      intro y hy
      rw [← hl] at hy
      obtain ⟨x, hx, rfl⟩ := List.mem_map.1 hy
      simpa using h2 x hx
    rw [e1]
    exact MpO_set hs1 ⟨_, _, hw_setBlock hb, hl, hk, hd⟩ fun j hj => hw_setBlock_ne hj
  · have hjs : j < es.size := by
      have := (List.getElem?_eq_some_iff.1 h2).1
      simpa using this
    have hsub : (es.eraseIdxIfInBounds j).toList = es.toList.eraseIdx j := by
      unfold Array.eraseIdxIfInBounds
      rw [dif_pos hjs]
      simp
    have hrun : (Builtin.delete_ #[mt, kt] ty #[.map (some b), kv]).run P w = .ok (.tuple #[]) (setBlock w b (.map (es.eraseIdxIfInBounds j) clock)) := by
      simp [Builtin.delete_, run_underlying ht, MapKept.run_getObj_map hb', KK.check w _ hkl, h1, MapKept.run_setObj_map _ hb', Result.andThen, setBlock]
    refine ⟨_, setBlock w b (.map (es.eraseIdxIfInBounds j) clock), _, .inl (hex _ hrun), ⟨hG.1, hG.2⟩, ?_, rfl, rfl⟩
    have e1 : (es.eraseIdxIfInBounds j).toList.map (fun x => (x.key, x.val)) = l.filter (fun y => decide (y.1 ≠ kv)) := by
      rw [hsub, map_eraseIdx, hl]
      have := erase_filter (x := (e0.key, e0.val)) hd (j := j) (by rw [← hl]; simp [h2])
      rw [this, h3]
    refine MpO_set hs1 ⟨_, _, hw_setBlock hb, e1, hsubl, hd.sublist List.filter_sublist⟩ fun j hj => hw_setBlock_ne hj

end
end Go.Dv
