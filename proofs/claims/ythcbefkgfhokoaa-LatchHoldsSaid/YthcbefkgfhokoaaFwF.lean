import Derived.Test.YthcbefkgfhokoaaFwE
import Derived.Laws.Append
import Derived.Laws.AppendOwn
import Derived.Great.BuildSlice
/- Slices of the call's own. -/
namespace Go.Dv
open Go

/-- of a slice's type: the elements' type, their cells, their bytes, the zero's cells -/
def slI (P : Program) (st : TypeId) : Option (TypeId × Nat × Nat × List Value) := match P.underlying st with
  | some (.slice E) => match P.info? E with
    | some i => match i.zero with
      | some z => some (E, i.size, i.bytes, z.cells.toList)
      | none => none
    | none => none
  | _ => none

def OwS (E k : Nat) (v : Value) (n : Nat) (cs : List Value) : HP := fun h => cs.length = n * k ∧
  ((v = .slice none 0 0 ∧ n = 0) ∨ ∃ (b cap : Nat) (sp : List Value), v = .slice (some ⟨b, 0, none⟩) n cap ∧ n ≤ cap ∧ (cs ++ sp).length = cap * k ∧ h b = some (.cells (cs ++ sp).toArray E (0, 0)))

section
variable {P : Program} {gl : Gl} {n : Nat} {aa r : List HP} {J : PH → Prop} {e : Env} {K : Kx} {k : Env → PH → Prop}

theorem slI_spec {st E kz by_ : Nat} {z : List Value} (h : slI P st = some (E, kz, by_, z)) : P.underlying st = some (.slice E) ∧ ∃ i zv, P.info? E = some i ∧ i.zero = some zv ∧ i.size = kz ∧ i.bytes = by_ ∧ zv.cells.toList = z := by
  unfold slI at h
  split at h
  · rename_i E' hu
    split at h
    · rename_i i hi
      split at h
      · rename_i zv hz
        simp only [Option.some.injEq, Prod.mk.injEq] at h
        obtain ⟨rfl, rfl, rfl, rfl⟩ := h
        exact ⟨hu, i, zv, hi, hz, rfl, rfl, rfl⟩
      · cases h
    · cases h
  · cases h

theorem t_raw {d : Option Nat} {g : Option (Nat × Bool)} {o : Oper} {t : MT} {pend : Pn} {D i : Nat} {R : Value → List HP → Prop} (hg : gdv e g = some true)
    (hk : known e o.op.operands.toList) (hs : ∀ cs b, o.op ≠ .select cs b)
    (hx : ∀ w, Sep aa (hw w) → okG gl w → ∃ v w' aa', ((execOp (evD e) o).run P w = .ok (.value v) w' ∨ ((execOp (evD e) o).run P w = .ok .skip w' ∧ v = undef)) ∧ okG gl w' ∧ Sep aa' (hw w') ∧ R v aa')
    (m : ∀ v aa', R v aa' → Rk pend (D ||| 2 ^ i) aa' ∧ En aa' (HTh P gl k t pend (D ||| 2 ^ i) (put e d v))) :
    En aa (HTh P gl k (.ef d g i (.raw o) t) pend D e) := by
  refine t_ef (R := R) hg ?_ m
  intro w hs' hG R' hR'
  obtain ⟨v, w', aa', hrun, hG', hs2, hR⟩ := hx w hs' hG
  refine ⟨hk, hs, ?_⟩
  rcases hrun with hrun | ⟨hrun, rfl⟩
  · rw [hrun]; exact hR' v w' aa' hR hG' hs2
  · rw [hrun]; exact hR' undef w' aa' hR hG' hs2

theorem cells_at {b o : Nat} {c : List Value} {T : TypeId} {w : World} {ns : List Value} {m : Nat} (hb : hw w b = some (.cells c.toArray T (0, 0))) (hn : (c.drop o).take m = ns) : ∀ j u, ns[j]? = some u → w.cell? ((⟨b, o, none⟩ : Addr).add j) = some u := by
  intro j u hj
  rw [add_none, cell_hw hb]
  rw [← hn, List.getElem?_take] at hj
  split at hj
  · rw [List.getElem?_drop] at hj; simpa using hj
  · cases hj

theorem hw_drew {w : World} : hw w.drew = hw w := rfl

theorem t_app {d : Option Nat} {g : Option (Nat × Bool)} {t : MT} {pend : Pn} {D i : Nat} {x y : Operand} {st ty E kz by_ : Nat} {z : List Value} {v : Value} {l bx ox m c Tx : Nat} {cs xs ns : List Value} {r1 r2 : List HP} (hT : slI P st = some (E, kz, by_, z))
    (hg : gdv e g = some true) (hx : ev e x = some v) (hy : ev e y = some (.slice (some ⟨bx, ox, none⟩) m c)) (pk1 : Pk aa (OwS E kz v l cs) r1) (pk2 : Pk r1 (Cl bx Tx xs) r2)
    (hz : z.length = kz) (hk0 : 0 < kz) (hm : 0 < m) (hns : (xs.drop ox).take (m * kz) = ns) (hnl : ns.length = m * kz) (h1 : ns.all Value.oneCell' = true) (hb : (l + m) * by_ ≤ 140737488355328) (hl : l + m ≤ 4611686018427387904)
    (mm : ∀ v', Rk pend (D ||| 2 ^ i) (OwS E kz v' (l + m) (cs ++ ns) :: Cl bx Tx xs :: r2) ∧ En (OwS E kz v' (l + m) (cs ++ ns) :: Cl bx Tx xs :: r2) (HTh P gl k t pend (D ||| 2 ^ i) (put e d v'))) :
    En aa (HTh P gl k (.ef d g i (.raw ⟨none, .call ⟨.builtin .append, #[x, y], #[st, st]⟩, ty, "", #[], none⟩) t) pend D e) := by
  obtain ⟨hu, inf, zv, hi, hzv, rfl, rfl, rfl⟩ := slI_spec hT
  refine t_raw (R := fun v' aa' => aa' = OwS E inf.size v' (l + m) (cs ++ ns) :: Cl bx Tx xs :: r2) hg ⟨⟨_, hx⟩, ⟨_, hy⟩, trivial⟩ (by simp) ?_ (by rintro v' _ rfl; exact mm v')
  intro w hs hG
  have hs1 := sep_tail (fun _ => pk2.out) (pk1.out hs)
  obtain ⟨h1', h2', dd, uu, ⟨hlen, how⟩, hr⟩ := hs1
  have hbx2 := Cl_get hr
  have hbx : hw w bx = some (.cells xs.toArray Tx (0, 0)) := by
    rw [uu bx]
    rcases dd bx with h | h
    · rw [h, hbx2]; rfl
    · rw [hbx2] at h; cases h
  have hex : ∀ rr ww, (Builtin.append_ #[st, st] ty #[v, .slice (some ⟨bx, ox, none⟩) m c]).run P w = .ok rr ww → (execOp (evD e) ⟨none, .call ⟨.builtin .append, #[x, y], #[st, st]⟩, ty, "", #[], none⟩).run P w = .ok (.value rr) ww := by
    intro rr ww hrun
    simp [execOp, resolve, evD, hx, hy, invoke, builtin, hrun]
  have hnews := cells_at (w := w) hbx hns
  have hnews' := cells_at (w := w.drew) hbx hns
  have hcl : (cs ++ ns).length = (l + m) * inf.size := by rw [List.length_append, hlen, hnl, Nat.add_mul]
  have hm1 : m ≤ l + m := Nat.le_add_left _ _
  have hgrown : ∀ (old : Nat), old < l + m → ∃ sp : List Value, l + m ≤ grownCap w (l + m) old E ∧ (cs ++ ns ++ sp).length = grownCap w (l + m) old E * inf.size ∧ (Builtin.zeroCells zv.cells (grownCap w (l + m) old E - (l + m))).toList = sp := by
    intro old ho
    have hge : l + m ≤ grownCap w (l + m) old E := by simp [grownCap, Question.cut]
    refine ⟨_, hge, ?_, rfl⟩
    rw [List.length_append, hcl]
    have h5 : (Builtin.zeroCells zv.cells (grownCap w (l + m) old E - (l + m))).toList.length = (grownCap w (l + m) old E - (l + m)) * inf.size := by
      rw [Array.length_toList, size_zeroCells]
      congr 1
    rw [h5, ← Nat.add_mul]
    congr 1; omega
  have halloc : ∀ (sp : List Value) (cap : Nat), l + m ≤ cap → (cs ++ ns ++ sp).length = cap * inf.size →
      Sep (OwS E inf.size (.slice (some ⟨w.heap.size, 0, none⟩) (l + m) cap) (l + m) (cs ++ ns) :: Cl bx Tx xs :: r2) (hw (w.drew.alloc (.cells (cs ++ ns ++ sp).toArray E))) := by
    intro sp cap hc hsl
    have hold : Sep (Cl bx Tx xs :: r2) (hw w.drew) := sep_mono hr fun b o hb => by
      show hw w b = some o
      rw [uu b]
      rcases dd b with h | h
      · rw [h, hb]; rfl
      · rw [hb] at h; cases h
    refine sep_new hold (hw_top (w := w.drew)) hw_alloc (fun k hk => hw_alloc_ne hk) ⟨hcl, .inr ⟨w.heap.size, cap, sp, rfl, hc, hsl, ?_⟩⟩
    exact if_pos rfl
  rcases how with ⟨rfl, rfl⟩ | ⟨b, cap, sp, rfl, hcap, hspl, hbb⟩
  · have hcs : cs = [] := by simpa using hlen
    subst hcs
    have hlaw := run_append_nil (P := P) w st ty E inf zv hu hi hzv ⟨bx, ox, none⟩ m c ns hnl hnews hm (by omega) (by simp at hb; omega)
    obtain ⟨sp, hge, hsl, hsp⟩ := hgrown 0 (by omega)
    have e2 : ns.toArray ++ Builtin.zeroCells zv.cells (grownCap w m 0 E - m) = ([] ++ ns ++ sp).toArray := by
      apply Array.ext'; rw [← hsp]; simp
    rw [e2] at hlaw
    refine ⟨_, _, _, .inl (hex _ _ hlaw), ⟨hG.1, hG.2⟩, ?_, rfl⟩
    have := halloc sp (grownCap w m 0 E) (by simpa using hge) (by simpa using hsl)
    simpa using this
  · have hbw : hw w b = some (.cells (cs ++ sp).toArray E (0, 0)) := by rw [uu b, hbb]; rfl
    by_cases hroom : l + m ≤ cap
    · have hfit : l * inf.size + ns.length ≤ (cs ++ sp).toArray.size := by
        have : (l + m) * inf.size ≤ cap * inf.size := Nat.mul_le_mul_right _ hroom
        rw [Nat.add_mul] at this
        simp only [List.size_toArray]
        rw [hspl, hnl]; exact this
      have hlaw := run_append_room (P := P) w st ty E inf hu hi b l cap (cs ++ sp).toArray hbw ⟨bx, ox, none⟩ m c ns hnl hnews (fun u hu => List.all_eq_true.1 h1 u hu) hroom hfit
      have e2 : ((cs ++ sp).toArray.toList.take (l * inf.size) ++ ns ++ (cs ++ sp).toArray.toList.drop (l * inf.size + ns.length)) = cs ++ ns ++ sp.drop ns.length := by
        rw [← hlen]
        simp [List.drop_append]
      rw [e2] at hlaw
      refine ⟨_, _, _, .inl (hex _ _ hlaw), ⟨hG.1, hG.2⟩, ?_, rfl⟩
      have hnb : h2' b = none := by
        rcases dd b with h | h
        · rw [hbb] at h; cases h
        · exact h
      refine ⟨fun k => if k = b then some (.cells (cs ++ ns ++ sp.drop ns.length).toArray E (0, 0)) else h1' k, h2', fun k => ?_, fun k => ?_, ⟨hcl, .inr ⟨b, cap, sp.drop ns.length, rfl, hroom, ?_, by simp⟩⟩, hr⟩
      · by_cases hk : k = b
        · subst hk; exact .inr hnb
        · simp only [if_neg hk]; exact dd k
      · by_cases hk : k = b
        · subst hk; rw [hw_setRow hbw]; simp
        · rw [hw_setRow_ne hk, uu k]; simp [hk]
      · rw [← hspl]
        simp only [List.length_append, List.length_drop]
        have : cs.length + ns.length ≤ cs.length + sp.length := by
          have h6 := hfit
          rw [← hlen] at h6
          simpa using h6
        omega
    · have hholds : ∀ j u, cs[j]? = some u → w.cell? ((⟨b, 0, none⟩ : Addr).add j) = some u := cells_at hbw (o := 0) (m := cs.length) (by simp)
      have hlaw := run_append_grow (P := P) w st ty E inf zv hu hi hzv ⟨b, 0, none⟩ l cap cs hlen hholds ⟨bx, ox, none⟩ m c ns hnl hnews (by omega) (by omega) (growslice_fits (by omega) hb)
      obtain ⟨sp2, hge, hsl, hsp⟩ := hgrown cap (by omega)
      have e2 : cs.toArray ++ ns.toArray ++ Builtin.zeroCells zv.cells (grownCap w (l + m) cap E - (l + m)) = (cs ++ ns ++ sp2).toArray := by
        apply Array.ext'; rw [← hsp]; simp
      rw [e2] at hlaw
      exact ⟨_, _, _, .inl (hex _ _ hlaw), ⟨hG.1, hG.2⟩, halloc sp2 _ hge hsl, rfl⟩

theorem fill_all (size : Nat) : ∀ (vs : List Value) (i : Nat) (cs : Array Value), cs.size = (i + vs.length) * size → (vs.all fun v => v.cells.size == size) = true →
    Instr.fill (fun i => some (i * size, size)) cs ((vs.zipIdx i).map fun x => (x.2, x.1)) = some (cs.toList.take (i * size) ++ vs.flatMap (·.cells.toList)).toArray
  | [], i, cs, h, _ => by
    simp only [List.length_nil, Nat.add_zero] at h
    have e1 : cs.toList.take (i * size) = cs.toList := by rw [← h]; exact List.take_of_length_le (by simp)
    simp [Instr.fill, e1]
  | v :: vs, i, cs, h, ha => by
    simp only [List.all_cons, Bool.and_eq_true, beq_iff_eq] at ha
    obtain ⟨h1, h2⟩ := ha
    simp only [List.length_cons] at h
    have hexp : (i + (vs.length + 1)) * size = i * size + size + vs.length * size := by
      rw [Nat.add_mul, Nat.add_mul]; omega
    simp only [List.zipIdx_cons, List.map_cons, Instr.fill]
    have hc : ¬ ((decide (v.cells.size ≠ size) || decide (i * size + v.cells.size > cs.size)) = true) := by
      simp [h1]; omega
    rw [if_neg hc]
    have hsp : (v.cells.zipIdx.foldl (fun (cs : Array Value) (x : Value × Nat) => cs.setIfInBounds (i * size + x.2) x.1) cs).toList = splice cs.toList (i * size) v.cells.toList := by
      rw [← Array.foldl_toList, Array.toList_zipIdx]
      exact set_splice (i * size) v.cells.toList 0 cs (by simp [h1]; omega)
    have hlen : (splice cs.toList (i * size) v.cells.toList).length = cs.size := by
      simp only [splice, List.length_append, List.length_take, List.length_drop, Array.length_toList, h1]; omega
    have ih := fill_all size vs (i + 1) (v.cells.zipIdx.foldl (fun (cs : Array Value) (x : Value × Nat) => cs.setIfInBounds (i * size + x.2) x.1) cs)
      (by rw [← Array.length_toList, hsp, hlen, h]; congr 1; omega) h2
    refine ih.trans ?_
    congr 2
    rw [hsp]
    have e1 : (splice cs.toList (i * size) v.cells.toList).take ((i + 1) * size) = cs.toList.take (i * size) ++ v.cells.toList := by
      have h3 : (i + 1) * size = (cs.toList.take (i * size) ++ v.cells.toList).length := by
        simp only [List.length_append, List.length_take, Array.length_toList, h1]; rw [Nat.add_mul]; omega
      rw [splice, h3, List.take_left']
      rfl
    rw [e1]
    simp

theorem t_bsl {d : Option Nat} {g : Option (Nat × Bool)} {t : MT} {pend : Pn} {D i : Nat} {parts : Array (Nat × Operand)} {st ty E kz by_ len : Nat} {z : List Value} {vs : List Value} (hT : slI P st = some (E, kz, by_, z))
    (hg : gdv e g = some true) (hv : evs e (parts.toList.map (·.2)) = some vs) (hi : parts.toList.map (·.1) = List.range len) (hz : z.length = kz) (hk0 : Nat.blt 0 kz = true) (hl0 : Nat.blt 0 len = true) (hsm : Nat.ble (len * kz) 16777216 = true) (hall : (vs.all fun v => v.cells.size == kz) = true)
    (mm : ∀ b, Rk pend (D ||| 2 ^ i) (Cl b E (vs.flatMap (·.cells.toList)) :: aa) ∧ En (Cl b E (vs.flatMap (·.cells.toList)) :: aa) (HTh P gl k t pend (D ||| 2 ^ i) (put e d (.slice (some ⟨b, 0, none⟩) len len)))) :
    En aa (HTh P gl k (.ef d g i (.raw ⟨none, .buildSlice st len parts, ty, "", #[], none⟩) t) pend D e) := by
  obtain ⟨hu, inf, zv, hin, hzv, rfl, rfl, rfl⟩ := slI_spec hT
  have hk0' : 0 < inf.size := by simpa [Nat.blt_eq] using hk0
  have hl0' : 0 < len := by simpa [Nat.blt_eq] using hl0
  have hsm' : len * inf.size ≤ 16777216 := Nat.le_of_ble_eq_true hsm
  have hpos : 0 < len * inf.size := Nat.mul_pos hl0' hk0'
  have hkn : known e (Op.buildSlice st len parts).operands.toList := by
    simp only [Op.operands]
    have : ∀ (xs : List Operand) (vs : List Value), evs e xs = some vs → known e xs := by
      intro xs
      induction xs with
      | nil => intro _ _; trivial
      | cons x xs ih =>
        intro vs h
        simp only [evs] at h
        split at h
        · rename_i v vs' h1 h2; exact ⟨⟨v, h1⟩, ih vs' h2⟩
        · cases h
    simpa using this _ _ hv
  refine t_raw (R := fun v' aa' => ∃ b, v' = .slice (some ⟨b, 0, none⟩) len len ∧ aa' = Cl b E (vs.flatMap (·.cells.toList)) :: aa) hg hkn (by simp) ?_ (by rintro v' _ ⟨b, rfl, rfl⟩; exact mm b)
  intro w hs hG
  have hag : Agr e (evD e) := by intro y u hy; simp [evD, hy]
  have hmap : (parts.toList.map (·.2)).map (evD e) = vs := evs_spec _ _ hv hag
  have hlen : vs.length = len := by
    have := congrArg List.length hi
    rw [← hmap]; simpa using this
  have hpart : (parts.map fun (x : Nat × Operand) => (x.1, evD e x.2)).toList = (vs.zipIdx 0).map fun x => (x.2, x.1) := by
    rw [Array.toList_map]
    apply List.ext_getElem?
    intro j
    rw [List.getElem?_map, List.getElem?_map, List.getElem?_zipIdx]
    have h1 := congrArg (·[j]?) hi
    have h2 := congrArg (·[j]?) hmap
    simp only [List.getElem?_map] at h1 h2
    cases hp : parts.toList[j]? with
    | none => rw [hp] at h2; simp only [Option.map_none] at h2; rw [← h2]; rfl
    | some p =>
      rw [hp] at h1 h2
      simp at h1 h2
      have hj : j < len := by
        have := (List.getElem?_eq_some_iff.1 hp).1
        rw [← hlen, ← hmap]; simpa using this
      rw [List.getElem?_range hj] at h1
      simp at h1
      rw [← h2]; simp [h1]
  have hf := fill_all inf.size vs 0 ((Array.range (len * inf.size)).map (zv.cells[· % zv.cells.size]!)) (by simp [hlen]) hall
  have hrun := run_buildSlice (P := P) w st E len (parts.map fun (x : Nat × Operand) => (x.1, evD e x.2)) _ inf zv hu hin hzv (by omega) (by omega) (by rw [hpart]; exact hf)
  refine ⟨_, w.alloc (.cells (vs.flatMap (·.cells.toList)).toArray E), _, .inl ?_, ⟨hG.1, hG.2⟩, ?_, w.heap.size, rfl, rfl⟩
  · simp only [execOp, Sem.run_bind]
    have : (parts.map fun (x : Nat × Operand) => match x with | (i, x) => (i, evD e x)) = parts.map fun (x : Nat × Operand) => (x.1, evD e x.2) := rfl
    rw [this, hrun]
    simp
  · exact sep_new hs hw_top hw_alloc (fun k hk => hw_alloc_ne hk) (by simp [Cl])

theorem en_ows {E kz l : Nat} {v : Value} {cs : List Value} (pk : Pk aa (OwS E kz v l cs) r) (m : ∀ a c, v = .slice a l c → En aa J) : En aa J := by
  intro h hs
  obtain ⟨h1, h2, d, u, ⟨_, hx⟩, hr⟩ := pk.out hs
  rcases hx with ⟨rfl, rfl⟩ | ⟨b, cap, sp, rfl, _⟩
  · exact m _ _ rfl h hs
  · exact m _ _ rfl h hs
theorem en_x {x : HP} (y : HP) (pk : Pk aa x r) (h : x = y) (m : En (y :: r) J) : En aa J := by subst h; exact fun g hs => m g (pk.out hs)
theorem en_own {E kz : Nat} (m : En (OwS E kz (.slice none 0 0) 0 [] :: aa) J) : En aa J := en_emp (x := OwS E kz (.slice none 0 0) 0 []) ⟨by simp, .inl ⟨rfl, rfl⟩⟩ m
end
end Go.Dv
