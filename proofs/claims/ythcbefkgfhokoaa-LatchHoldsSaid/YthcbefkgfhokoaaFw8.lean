import Derived.Test.YthcbefkgfhokoaaFw7
import Derived.Laws.CopyRow
namespace Go.Dv
open Go

def Bd (P : Program) (f : FuncId) : Prop := ∃ fn c, P.funcs[f]? = some fn ∧ (fn.name == "runtime.NumGoroutine") = false ∧ fn.body = some c
def evD (e : Env) (x : Operand) : Value := (ev e x).getD undef
def known (e : Env) : List Operand → Prop
  | [] => True
  | x :: xs => (∃ v, ev e x = some v) ∧ known e xs

def callsR (P : Program) (f : FuncId) (vs : Array Value) (w : World) (R : Value → World → Prop) : Prop :=
  Calls P f vs w fun x w' => ∃ v, x = .returned v ∧ R v w'

def rawR (P : Program) (R : Value → World → Prop) : Result Next → Prop
  | .ok (.value v) w' => R v w'
  | .ok .skip w' => R undef w'
  | .ok (.enter f args) w' => callsR P f args w' R
  | _ => False

/-- What an operation that turns the world does. -/
def efX (P : Program) (e : Env) (x : MX) (w : World) (R : Value → World → Prop) : Prop :=
  match x with
  | .st n p v => match ev e p, ev e v with
    | some (.pointer (some ⟨b, o, none⟩)), some u =>
      ∃ c T, hw w b = some (.cells c T (0, 0)) ∧ u.cells.toList.length = n ∧ o + n ≤ c.toList.length ∧ (u.cells.toList.all Value.oneCell') = true ∧ R undef (w.setRow b (splice c.toList o u.cells.toList).toArray)
    | _, _ => False
  | .bx T n v => match ev e v with
    | some u => n = n ∧ R (.pointer (some ⟨w.heap.size, 0, none⟩)) (w.alloc (.cells u.cells T))
    | none => False
  | .al T cs => R (.pointer (some ⟨w.heap.size, 0, none⟩)) (w.alloc (.cells cs.toArray T))
  | .cl f args => match evs e args with
    | some vs => callsR P f vs.toArray w R
    | none => False
  | .cv f args => match ev e f, evs e args with
    | some (.func (.func g) first captured), some vs => Bd P g ∧ callsR P g (first ++ vs.toArray ++ captured) w R
    | _, _ => False
  | .raw o => known e o.op.operands.toList ∧ (∀ cs b, o.op ≠ .select cs b) ∧ rawR P R ((execOp (evD e) o).run P w)
  | _ => False

section
variable {P : Program} {w : World} {e : Env} {a : Act}

theorem known_mem : ∀ {xs : List Operand}, known e xs → ∀ x ∈ xs, ∃ v, ev e x = some v
  | y :: ys, h, x, hx => by
    rcases List.mem_cons.1 hx with rfl | hx
    · exact h.1
    · exact known_mem h.2 x hx

theorem upon_calls {o : Oper} {f : FuncId} {vs : Array Value} {w : World} {R : Value → World → Prop} {next : Act → World → Prop} {Q : Exit → Act → World → Prop}
    (h : callsR P f vs w R) (hn : ∀ v w', R v w' → next (a.put o.dst v) w') : o.upon P a next Q (.ok (.enter f vs) w) := by
  rw [Oper.upon_enter]
  refine Calls.mono h ?_
  rintro x w' ⟨v, rfl, hR⟩
  exact hn v w' hR

theorem run_efX {o : Oper} {R : Value → World → Prop} {next : Act → World → Prop} {Q : Exit → Act → World → Prop}
    (h : efX P e (trX P o) w R) (hρ : Agr e a.eval) (hn : ∀ v w', R v w' → next (a.put o.dst v) w') : o.wp P a w next Q := by
  obtain ⟨dst, op, ty, pos, aft, gd⟩ := o
  have hraw : ∀ {o' : Oper}, o' = strip ⟨dst, op, ty, pos, aft, gd⟩ → efX P e (.raw o') w R → Oper.wp P ⟨dst, op, ty, pos, aft, gd⟩ a w next Q := by
    rintro o' rfl h
    simp only [efX] at h
    obtain ⟨hk, hs, h⟩ := h
    unfold Oper.wp
    have hc : execOp a.eval ⟨dst, op, ty, pos, aft, gd⟩ = execOp (evD e) (strip ⟨dst, op, ty, pos, aft, gd⟩) := by
      show execOp a.eval (strip ⟨dst, op, ty, pos, aft, gd⟩) = execOp (evD e) (strip ⟨dst, op, ty, pos, aft, gd⟩)
      refine execOp_congr _ hs fun x hx => ?_
      obtain ⟨v, hv⟩ := known_mem hk x (by simpa using hx)
      rw [hρ x v hv]; simp [evD, hv]
    rw [hc]
    generalize (execOp (evD e) (strip ⟨dst, op, ty, pos, aft, gd⟩)).run P w = r at h
    cases r with
    | ok nx w' =>
      cases nx <;> simp only [rawR] at h
      · exact hn _ _ h
      · exact hn _ _ h
      · exact upon_calls h hn
    | halt x w' => simp only [rawR] at h
  cases op
  case store t x v =>
    simp only [trX] at h
    split at h
    · rename_i n hn'
      simp only [efX] at h
      split at h
      · rename_i b o u h1 h2
        obtain ⟨c, T, hb, hl, hle, hone, hR⟩ := h
        have hsz : (sizeOf t).run P w = .ok n w := by
          unfold sizeT at hn'
          cases hi : P.info? t with
          | none => simp [hi] at hn'
          | some i => simp [hi] at hn'; simp [sizeOf, typeInfo, hi, hn']
        have hb' : w.heap[b]? = some (.cells c T (0, 0)) := hb
        have hrun := run_storeCells_at (P := P) b o T u.cells.toList 0 c w hb' (by simp at hl hle ⊢; omega) (fun v hv => List.all_eq_true.1 hone v hv)
        have hlen : u.cells.size = n := by simpa using hl
        have : (execOp a.eval ⟨dst, .store t x v, ty, pos, aft, gd⟩).run P w = .ok .skip (w.setRow b (splice c.toList o u.cells.toList).toArray) := by
          simp only [execOp, hρ _ _ h1, hρ _ _ h2, Sem.run_bind, Instr.storeAt, Instr.sureAddr, Sem.run_pure, Result.andThen_ok, storeVar, hsz]
          rw [if_neg (by simp [hlen])]
          rw [hrun]
          simp [splice]
        unfold Oper.wp
        rw [this]
        exact hn _ _ hR
      · exact h.elim
    · exact hraw rfl h
  case box t v =>
    simp only [trX] at h
    split at h
    · rename_i n hn'
      simp only [efX] at h
      split at h
      · rename_i u h1
        have : (execOp a.eval ⟨dst, .box t v, ty, pos, aft, gd⟩).run P w = .ok (.value (.pointer (some ⟨w.heap.size, 0, none⟩))) (w.alloc (.cells u.cells t)) := by
          simp [execOp, hρ _ _ h1, Instr.box, newVar, newRow]
        unfold Oper.wp
        rw [this]
        exact hn _ _ h.2
      · exact h.elim
    · exact hraw rfl h
  case alloc t =>
    simp only [trX] at h
    split at h
    · rename_i i hi
      split at h
      · rename_i z hz
        simp only [efX] at h
        have : (execOp a.eval ⟨dst, .alloc t, ty, pos, aft, gd⟩).run P w = .ok (.value (.pointer (some ⟨w.heap.size, 0, none⟩))) (w.alloc (.cells z.cells t)) := by
          simp [execOp, Instr.alloc, zeroValue, typeInfo, hi, hz, newVar, newRow]
        unfold Oper.wp
        rw [this]
        exact hn _ _ (by simpa using h)
      · exact hraw rfl h
    · exact hraw rfl h
  case call c =>
    obtain ⟨callee, args, argTypes⟩ := c
    have hargs : ∀ vs, evs e args.toList = some vs → args.map a.eval = vs.toArray := by
      intro vs hvs
      have := evs_spec _ _ hvs hρ
      apply Array.ext'; simpa using this
    have hcv : ∀ x, efX P e (.cv x args.toList) w R → Oper.wp P ⟨dst, .call ⟨.value x, args, argTypes⟩, ty, pos, aft, gd⟩ a w next Q := by
      intro x h
      simp only [efX] at h
      split at h
      · rename_i g first captured vs h1 h2
        obtain ⟨⟨fn, c, hf, hnm, hb⟩, hc⟩ := h
        have : (execOp a.eval ⟨dst, .call ⟨.value x, args, argTypes⟩, ty, pos, aft, gd⟩).run P w = .ok (.enter g (first ++ vs.toArray ++ captured)) w := by
          have hnm' : fn.name ≠ "runtime.NumGoroutine" := by simpa using hnm
          simp [execOp, resolve, hρ _ _ h1, hargs _ h2, Deferred.ofValue, invoke, callFunc, hf, hb, hnm']
        unfold Oper.wp
        rw [this]
        exact upon_calls hc hn
      · exact h.elim
    cases callee with
    | value f =>
      cases f with
      | func g =>
        simp only [trX] at h
        split at h
        · rename_i fn hf
          split at h
          · exact hraw rfl h
          · rename_i hc
            simp only [Bool.or_eq_true, not_or, Bool.not_eq_true] at hc
            simp only [efX] at h
            split at h
            · rename_i vs hvs
              have hb : ∃ c, fn.body = some c := by
                cases hb : fn.body with
                | none => simp [hb] at hc
                | some c => exact ⟨c, rfl⟩
              obtain ⟨c, hb⟩ := hb
              have hnm' : fn.name ≠ "runtime.NumGoroutine" := by simpa using hc.1
              have : (execOp a.eval ⟨dst, .call ⟨.value (.func g), args, argTypes⟩, ty, pos, aft, gd⟩).run P w = .ok (.enter g vs.toArray) w := by
                simp [execOp, resolve, Act.eval, hargs _ hvs, Deferred.ofValue, invoke, callFunc, hf, hb, hnm']
              unfold Oper.wp
              rw [this]
              exact upon_calls h hn
            · exact h.elim
        · exact hraw rfl h
      | tmp t => exact hcv _ (by simpa only [trX] using h)
      | const v => exact hcv _ (by simpa only [trX] using h)
      | global g => exact hcv _ (by simpa only [trX] using h)
    | invoke r m => exact hraw rfl (by simpa only [trX] using h)
    | builtin b =>
      cases b <;> simp only [trX] at h <;> first
        | (exact hraw rfl h)
        | (split at h <;> first | (exact hraw rfl h) | (split at h <;> first | (exact hraw rfl h) | (simp only [efX] at h; done)))
  case slice t x lo hi mx =>
    cases mx with
    | some m => exact hraw rfl (by simpa only [trX] using h)
    | none =>
      simp only [trX] at h
      split at h
      · simp only [efX] at h
      · split at h
        · simp only [efX] at h
        · exact hraw rfl h
      · exact hraw rfl h
  all_goals first
    | (exact hraw rfl (by simpa only [trX] using h))
    | (simp only [trX, efX] at h; done)
    | (simp only [trX] at h; split at h <;> first | (exact hraw rfl h) | (simp only [efX] at h; done) | (split at h <;> first | (exact hraw rfl h) | (simp only [efX] at h; done) | (split at h <;> first | (exact hraw rfl h) | (simp only [efX] at h; done) | (split at h <;> first | (exact hraw rfl h) | (simp only [efX] at h; done)))))
end
end Go.Dv
