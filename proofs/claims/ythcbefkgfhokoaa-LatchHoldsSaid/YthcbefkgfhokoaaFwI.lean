import Derived.Test.YthcbefkgfhokoaaFwH
/- Rows that are read, added to one of the call's own. -/
namespace Go.Dv
open Go

section
variable {P : Program} {gl : Gl} {n : Nat} {aa r : List HP} {J : PH → Prop} {e : Env} {K : Kx} {k : Env → PH → Prop}

theorem t_apG {d : Option Nat} {g : Option (Nat × Bool)} {t : MT} {pend : Pn} {D i : Nat} {x y : Operand} {st ty E kz by_ : Nat} {z : List Value} {v : Value} {l bx ox m c : Nat} {cs ns : List Value} {r1 : List HP} (hT : slI P st = some (E, kz, by_, z))
    (hg : gdv e g = some true) (hx : ev e x = some v) (hy : ev e y = some (.slice (some ⟨bx, ox, none⟩) m c)) (pk1 : Pk aa (OwS E kz v l cs) r1) (hrd : ∀ w, Sep aa (hw w) → ∀ j u, ns[j]? = some u → w.cell? ((⟨bx, ox, none⟩ : Addr).add j) = some u)
    (hz : z.length = kz) (hk0 : 0 < kz) (hm : 0 < m) (hnl : ns.length = m * kz) (h1 : ns.all Value.oneCell' = true) (hb : (l + m) * by_ ≤ 140737488355328) (hl : l + m ≤ 4611686018427387904)
    (mm : ∀ v', Rk pend (D ||| 2 ^ i) (OwS E kz v' (l + m) (cs ++ ns) :: r1) ∧ En (OwS E kz v' (l + m) (cs ++ ns) :: r1) (HTh P gl k t pend (D ||| 2 ^ i) (put e d v'))) :
    En aa (HTh P gl k (.ef d g i (.raw ⟨none, .call ⟨.builtin .append, #[x, y], #[st, st]⟩, ty, "", #[], none⟩) t) pend D e) := by
  obtain ⟨hu, inf, zv, hi, hzv, rfl, rfl, rfl⟩ := slI_spec hT
  refine t_raw (R := fun v' aa' => aa' = OwS E inf.size v' (l + m) (cs ++ ns) :: r1) hg ⟨⟨_, hx⟩, ⟨_, hy⟩, trivial⟩ (by simp) ?_ (by rintro v' _ rfl; exact mm v')
  intro w hs hG
  have hs1 := pk1.out hs
  obtain ⟨h1', h2', dd, uu, ⟨hlen, how⟩, hr⟩ := hs1
  have hex : ∀ rr ww, (Builtin.append_ #[st, st] ty #[v, .slice (some ⟨bx, ox, none⟩) m c]).run P w = .ok rr ww → (execOp (evD e) ⟨none, .call ⟨.builtin .append, #[x, y], #[st, st]⟩, ty, "", #[], none⟩).run P w = .ok (.value rr) ww := by
    intro rr ww hrun
    simp [execOp, resolve, evD, hx, hy, invoke, builtin, hrun]
  have hnews := hrd w hs
  have hcl : (cs ++ ns).length = (l + m) * inf.size := by rw [List.length_append, hlen, hnl, Nat.add_mul]
  have hm1 : m ≤ l + m := Nat.le_add_left _ _
  have hgrown : ∀ (old : Nat), old < l + m → ∃ sp : List Value, l + m ≤ grownCap w (l + m) old E ∧ (cs ++ ns ++ sp).length = grownCap w (l + m) old E * inf.size ∧ (Builtin.zeroCells zv.cells (grownCap w (l + m) old E - (l + m))).toList = sp := by
    intro old ho
    have hge : l + m ≤ grownCap w (l + m) old E := by simp [grownCap, Question.cut]
    refine ⟨_, hge, ?_, rfl⟩
    rw [List.length_append, hcl]
    have h5 : (Builtin.zeroCells zv.cells (grownCap w (l + m) old E - (l + m))).toList.length = (grownCap w (l + m) old E - (l + m)) * inf.size := by
      rw [Array.length_toList, size_zeroCells]
      congr 1
    rw [h5, ← Nat.add_mul]
    congr 1; omega
  have halloc : ∀ (sp : List Value) (cap : Nat), l + m ≤ cap → (cs ++ ns ++ sp).length = cap * inf.size →
      Sep (OwS E inf.size (.slice (some ⟨w.heap.size, 0, none⟩) (l + m) cap) (l + m) (cs ++ ns) :: r1) (hw (w.drew.alloc (.cells (cs ++ ns ++ sp).toArray E))) := by
    intro sp cap hc hsl
    have hold : Sep r1 (hw w.drew) := sep_mono hr fun b o hb => by
      show hw w b = some o
      rw [uu b]
      rcases dd b with h | h
      · rw [h, hb]; rfl
      · rw [hb] at h; cases h
    refine sep_new hold (hw_top (w := w.drew)) hw_alloc (fun k hk => hw_alloc_ne hk) ⟨hcl, .inr ⟨w.heap.size, cap, sp, rfl, hc, hsl, ?_⟩⟩
    exact if_pos rfl
  rcases how with ⟨rfl, rfl⟩ | ⟨b, cap, sp, rfl, hcap, hspl, hbb⟩
  · have hcs : cs = [] := by simpa using hlen
    subst hcs
    have hlaw := run_append_nil (P := P) w st ty E inf zv hu hi hzv ⟨bx, ox, none⟩ m c ns hnl hnews hm (by omega) (by simp at hb; omega)
    obtain ⟨sp, hge, hsl, hsp⟩ := hgrown 0 (by omega)
    have e2 : ns.toArray ++ Builtin.zeroCells zv.cells (grownCap w m 0 E - m) = ([] ++ ns ++ sp).toArray := by
      apply Array.ext'; rw [← hsp]; simp
    rw [e2] at hlaw
    refine ⟨_, _, _, .inl (hex _ _ hlaw), ⟨hG.1, hG.2⟩, ?_, rfl⟩
    have := halloc sp (grownCap w m 0 E) (by simpa using hge) (by simpa using hsl)
    simpa using this
  · have hbw : hw w b = some (.cells (cs ++ sp).toArray E (0, 0)) := by rw [uu b, hbb]; rfl
    by_cases hroom : l + m ≤ cap
    · have hfit : l * inf.size + ns.length ≤ (cs ++ sp).toArray.size := by
        have : (l + m) * inf.size ≤ cap * inf.size := Nat.mul_le_mul_right _ hroom
        rw [Nat.add_mul] at this
        simp only [List.size_toArray]
        rw [hspl, hnl]; exact this
      have hlaw := run_append_room (P := P) w st ty E inf hu hi b l cap (cs ++ sp).toArray hbw ⟨bx, ox, none⟩ m c ns hnl hnews (fun u hu => List.all_eq_true.1 h1 u hu) hroom hfit
      have e2 : ((cs ++ sp).toArray.toList.take (l * inf.size) ++ ns ++ (cs ++ sp).toArray.toList.drop (l * inf.size + ns.length)) = cs ++ ns ++ sp.drop ns.length := by
        rw [← hlen]
        simp [List.drop_append]
      rw [e2] at hlaw
      refine ⟨_, _, _, .inl (hex _ _ hlaw), ⟨hG.1, hG.2⟩, ?_, rfl⟩
      have hnb : h2' b = none := by
        rcases dd b with h | h
        · rw [hbb] at h; cases h
        · exact h
      refine ⟨fun k => if k = b then some (.cells (cs ++ ns ++ sp.drop ns.length).toArray E (0, 0)) else h1' k, h2', fun k => ?_, fun k => ?_, ⟨hcl, .inr ⟨b, cap, sp.drop ns.length, rfl, hroom, ?_, by simp⟩⟩, hr⟩
      · by_cases hk : k = b
        · subst hk; exact .inr hnb
        · simp only [if_neg hk]; exact dd k
      · by_cases hk : k = b
        · subst hk; rw [hw_setRow hbw]; simp
        · rw [hw_setRow_ne hk, uu k]; simp [hk]
      · rw [← hspl]
        simp only [List.length_append, List.length_drop]
        have : cs.length + ns.length ≤ cs.length + sp.length := by
          have h6 := hfit
          rw [← hlen] at h6
          simpa using h6
        omega
    · have hholds : ∀ j u, cs[j]? = some u → w.cell? ((⟨b, 0, none⟩ : Addr).add j) = some u := cells_at hbw (o := 0) (m := cs.length) (by simp)
      have hlaw := run_append_grow (P := P) w st ty E inf zv hu hi hzv ⟨b, 0, none⟩ l cap cs hlen hholds ⟨bx, ox, none⟩ m c ns hnl hnews (by omega) (by omega) (growslice_fits (by omega) hb)
      obtain ⟨sp2, hge, hsl, hsp⟩ := hgrown cap (by omega)
      have e2 : cs.toArray ++ ns.toArray ++ Builtin.zeroCells zv.cells (grownCap w (l + m) cap E - (l + m)) = (cs ++ ns ++ sp2).toArray := by
        apply Array.ext'; rw [← hsp]; simp
      rw [e2] at hlaw
      exact ⟨_, _, _, .inl (hex _ _ hlaw), ⟨hG.1, hG.2⟩, halloc sp2 _ hge hsl, rfl⟩


theorem flat_len {k : Nat} : ∀ {ys : List (List Value)}, (∀ x ∈ ys, x.length = k) → ys.flatten.length = ys.length * k
  | [], _ => by simp
  | x :: xs, h => by
    rw [List.flatten_cons, List.length_append, flat_len fun x hx => h x (by simp [hx]), h x (by simp), List.length_cons, Nat.add_mul]; omega
theorem run_append_no (w : World) (t ty E : TypeId) (i : TypeInfo) (ht : P.underlying t = some (.slice E)) (hi : P.info? E = some i) (base a : Option Addr) (l cap c : Nat) (hroom : l ≤ cap) :
    (Builtin.append_ #[t, t] ty #[.slice base l cap, .slice a 0 c]).run P w = .ok (.slice base l cap) w := by
  cases a with
  | none =>
    cases base with
    | none => simp [Builtin.append_, run_underlying ht, sizeOf, typeInfo, hi, Builtin.lenOf, hroom, Builtin.firstCells]
    | some b => simp [Builtin.append_, run_underlying ht, sizeOf, typeInfo, hi, Builtin.lenOf, hroom, Builtin.firstCells, storeCells]
  | some a =>
    cases base with
    | none => simp [Builtin.append_, run_underlying ht, sizeOf, typeInfo, hi, Builtin.lenOf, hroom, Builtin.firstCells, loadCells, loadCellsFrom]
    | some b => simp [Builtin.append_, run_underlying ht, sizeOf, typeInfo, hi, Builtin.lenOf, hroom, Builtin.firstCells, storeCells, loadCells, loadCellsFrom]

theorem t_bs0 {d : Option Nat} {g : Option (Nat × Bool)} {t : MT} {pend : Pn} {D i : Nat} {st ty E kz by_ : Nat} {z : List Value} (hT : slI P st = some (E, kz, by_, z)) (hg : gdv e g = some true)
    (mm : ∀ b, Rk pend (D ||| 2 ^ i) (OwS E kz (.slice (some ⟨b, 0, none⟩) 0 0) 0 [] :: aa) ∧ En (OwS E kz (.slice (some ⟨b, 0, none⟩) 0 0) 0 [] :: aa) (HTh P gl k t pend (D ||| 2 ^ i) (put e d (.slice (some ⟨b, 0, none⟩) 0 0)))) :
    En aa (HTh P gl k (.ef d g i (.raw ⟨none, .buildSlice st 0 #[], ty, "", #[], none⟩) t) pend D e) := by
  obtain ⟨hu, inf, zv, hin, hzv, rfl, rfl, rfl⟩ := slI_spec hT
  refine t_raw (R := fun v' aa' => ∃ b, v' = .slice (some ⟨b, 0, none⟩) 0 0 ∧ aa' = OwS E inf.size v' 0 [] :: aa) hg (by simp [Op.operands, known]) (by simp) ?_ (by rintro v' _ ⟨b, rfl, rfl⟩; exact mm b)
  intro w hs hG
  have hrun : (Instr.buildSlice st 0 #[]).run P w = .ok (.slice (some ⟨w.heap.size, 0, none⟩) 0 0) (w.alloc (.cells #[] E)) := by
    simp [Instr.buildSlice, run_underlying hu, sizeOf, typeInfo, hin, Instr.fill, newRow]
    congr 2
    apply Array.ext'
    simp
  refine ⟨_, w.alloc (.cells #[] E), _, .inl ?_, ⟨hG.1, hG.2⟩, ?_, w.heap.size, rfl, rfl⟩
  · simp only [execOp, Sem.run_bind]
    simp [hrun]
  · exact sep_new hs hw_top hw_alloc (fun k hk => hw_alloc_ne hk) ⟨by simp, .inr ⟨w.heap.size, 0, [], rfl, Nat.le_refl _, by simp, if_pos rfl⟩⟩

theorem t_apR {d : Option Nat} {g : Option (Nat × Bool)} {t : MT} {pend : Pn} {D i : Nat} {x y : Operand} {st ty E kz by_ : Nat} {z : List Value} {v yv : Value} {l : Nat} {cs : List Value} {xs : List (List Value)} {R : HP} {r1 r2 : List HP} (hT : slI P st = some (E, kz, by_, z))
    (hg : gdv e g = some true) (hx : ev e x = some v) (hy : ev e y = some yv) (hS : RdS R kz yv xs) (pk1 : Pk aa (OwS E kz v l cs) r1) (pk2 : Pk r1 R r2)
    (hz : z.length = kz) (hk0 : 0 < kz) (h1 : xs.flatten.all Value.oneCell' = true) (hb : (l + xs.length) * by_ ≤ 140737488355328) (hl : l + xs.length ≤ 4611686018427387904)
    (mm : ∀ v', Rk pend (D ||| 2 ^ i) (OwS E kz v' (l + xs.length) (cs ++ xs.flatten) :: r1) ∧ En (OwS E kz v' (l + xs.length) (cs ++ xs.flatten) :: r1) (HTh P gl k t pend (D ||| 2 ^ i) (put e d v'))) :
    En aa (HTh P gl k (.ef d g i (.raw ⟨none, .call ⟨.builtin .append, #[x, y], #[st, st]⟩, ty, "", #[], none⟩) t) pend D e) := by
  cases xs with
  | nil =>
    obtain ⟨a, c, rfl⟩ := hS.len
    simp only [List.length_nil, List.flatten_nil, List.append_nil, Nat.add_zero] at mm hy
    obtain ⟨hu, inf, zv, hi, hzv, rfl, rfl, rfl⟩ := slI_spec hT
    refine t_raw (R := fun v' aa' => v' = v ∧ aa' = OwS E inf.size v l cs :: r1) hg ⟨⟨_, hx⟩, ⟨_, hy⟩, trivial⟩ (by simp) ?_ (by rintro v' _ ⟨rfl, rfl⟩; exact mm v')
    intro w hs hG
    have hs1 := pk1.out hs
    have hv : ∃ base cap, v = .slice base l cap ∧ l ≤ cap := by
      obtain ⟨h1', h2', dd, uu, ⟨hlen, how⟩, hr⟩ := hs1
      rcases how with ⟨rfl, rfl⟩ | ⟨b, cap, sp, rfl, hcap, _⟩
      · exact ⟨_, _, rfl, Nat.le_refl _⟩
      · exact ⟨_, _, rfl, hcap⟩
    obtain ⟨base, cap, rfl, hcap⟩ := hv
    have hrun := run_append_no (P := P) w st ty E inf hu hi base a l cap c hcap
    refine ⟨_, w, _, .inl ?_, hG, hs1, rfl, rfl⟩
    simp [execOp, resolve, evD, hx, hy, invoke, builtin, hrun]
  | cons x0 xs0 =>
    obtain ⟨a, c, rfl⟩ := hS.len
    obtain ⟨b, o, rfl, _⟩ := hS.ptr (by simp)
    refine t_apG (ns := (x0 :: xs0).flatten) hT hg hx hy pk1 ?_ hz hk0 (by simp) ?_ h1 hb hl mm
    · intro w hs j u hj
      obtain ⟨_, hcs⟩ := hS
      rcases hcs with ⟨h, _⟩ | ⟨b', o', c', he, hR⟩
      · cases h
      · simp only [Value.slice.injEq, Option.some.injEq, Addr.mk.injEq] at he
        obtain ⟨⟨rfl, rfl, _⟩, _, rfl⟩ := he
        obtain ⟨h', hs', hext⟩ := sep_drop (pk1.out hs)
        obtain ⟨h1', h2', dd, uu, hRR, _⟩ := pk2.out hs'
        obtain ⟨arr, T, fz, h3, h4⟩ := hR _ hRR
        have h5 : hw w b = some (.cells arr T fz) := hext _ _ (by rw [uu b, h3]; rfl)
        rw [add_none, cell_hw h5]
        rw [← h4, List.getElem?_take] at hj
        split at hj
        · rw [List.getElem?_drop] at hj; exact hj
        · cases hj
    · exact flat_len hS.1

theorem rds_ows {E kz : Nat} {v : Value} {xs : List (List Value)} (hk : ∀ x ∈ xs, x.length = kz) (h0 : 0 < xs.length) {h : PH} (hs : OwS E kz v xs.length xs.flatten h) : RdS (OwS E kz v xs.length xs.flatten) kz v xs := by
  obtain ⟨hl, ⟨_, hn⟩ | ⟨b, cap, sp, rfl, hc, hsl, hb⟩⟩ := hs
  · omega
  · refine ⟨hk, .inr ⟨b, 0, cap, rfl, fun g hg => ?_⟩⟩
    obtain ⟨hl', ⟨hv, _⟩ | ⟨b', cap', sp', he, hc', hsl', hb'⟩⟩ := hg
    · cases hv
    · simp only [Value.slice.injEq, Option.some.injEq, Addr.mk.injEq] at he
      obtain ⟨⟨rfl, _⟩, _, rfl⟩ := he
      refine ⟨_, E, (0, 0), hb', ?_⟩
      show (List.drop 0 ((xs.flatten ++ sp').toArray).toList).take _ = _
      rw [List.drop_zero, List.toList_toArray, ← hl, List.take_left']
      rfl
theorem en_rds {E kz m : Nat} {v : Value} {xs : List (List Value)} (hk : ∀ x ∈ xs, x.length = kz) (h0 : 0 < xs.length) (hm : m = xs.length) (pk : Pk aa (OwS E kz v m xs.flatten) r) (k : RdS (OwS E kz v m xs.flatten) kz v xs → En aa J) : En aa J := by
  subst hm
  intro h hs
  obtain ⟨h1, h2, d, u, hx, hr⟩ := pk.out hs
  exact k (rds_ows hk h0 hx) h hs
theorem en_one {ys : List HP} (pk : Pk aa (Sep ys) r) (m : En (ys ++ r) J) : En aa J :=
  en_open (α := Unit) (φ := fun _ => True) (ys := fun _ => ys) (fun _ hh => ⟨(), trivial, hh⟩) pk fun _ _ => m
theorem en_toone {ys : List HP} (sx : Sx aa ys r) (m : En (Sep ys :: r) J) : En aa J := en_fold (fun _ h => h) sx m
end
end Go.Dv
