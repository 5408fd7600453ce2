import Derived.Test.YthcbefkgfhokoaaBA
/- The latch's table. -/
namespace Go.Proofs.Ythcbefkgfhokoaa
open Go Go.Dv
set_option maxRecDepth 100000

theorem laidOut : laidOutB Try.prog = true := by kernel_rfl
theorem tysz : ∃ n, Try.prog.types.size = n + 2 ∧ n + 4 ≤ 10000 := by
  refine ⟨Try.prog.types.size - 2, ?_, ?_⟩
  · have : Nat.ble 2 Try.prog.types.size = true := by kernel_rfl
    have := Nat.le_of_ble_eq_true this
    omega
  · have : Nat.ble Try.prog.types.size 9996 = true := by kernel_rfl
    have := Nat.le_of_ble_eq_true this
    omega
theorem und59 : Try.prog.underlying 59 = some (.map 25 71) := by kernel_rfl
theorem kt25 : Try.prog.keyType 25 = true := by kernel_rfl
theorem wide25 : (match Try.prog.underlying 25 with | some (.array _ _) | some (.struct _) => true | _ => false) = true := by kernel_rfl
theorem ktx : Maps.Keyed Try.prog 25 := by
  obtain ⟨n, h, h2⟩ := tysz
  refine Maps.Keyed.of_law (deep_law_gate laidOut (by omega) (k := 25) ?_ kt25 wide25)
  exact of_decide_eq_true (by kernel_rfl)
def chk25 (P : Program) : Bool := match P.underlying 25 with
  | some (.struct fs) => match fs.toList with
    | [f, g] => f.name != "_" && g.name != "_" && f.offset == 0 && g.offset == 1 && f.type == g.type && P.cellsOf f.type == 1 && P.cellsOf 25 == 2 && (match P.underlying f.type with | some (.int .u32) => true | _ => false)
    | _ => false
  | _ => false
theorem chk25_ok : chk25 Try.prog = true := by kernel_rfl
def Tx.ok (t : Tx) : Prop := (0 ≤ t.c ∧ t.c < 4294967296) ∧ (0 ≤ t.n ∧ t.n < 4294967296)
theorem keyOk25 {t : Tx} (h : t.ok) : keyOk Try.prog 25 t.V := by
  obtain ⟨c, n⟩ := t
  obtain ⟨m, hm, _⟩ := tysz
  have hc := chk25_ok
  unfold chk25 at hc
  split at hc
  · rename_i fs hu
    split at hc
    · rename_i f g hfs
      simp only [Bool.and_eq_true, beq_iff_eq] at hc
      obtain ⟨⟨⟨⟨⟨⟨⟨h1, h2⟩, h3⟩, h4⟩, h5⟩, h6⟩, h7⟩, h8⟩ := hc
      split at h8
      · rename_i hi
        have w1 : (Lit.int .u32 c).wf = true := by simp [Lit.wf, IntKind.min, IntKind.max, IntKind.bits, IntKind.signed]; have := h.1; simp at this; omega
        have w2 : (Lit.int .u32 n).wf = true := by simp [Lit.wf, IntKind.min, IntKind.max, IntKind.bits, IntKind.signed]; have := h.2; simp at this; omega
        have hall : fs.all (·.name != "_") = true := by
          rw [← Array.all_toList, hfs]; simp [h1, h2]
        have hform : (Tx.V ⟨c, n⟩).formed Try.prog 25 = true := by simp [Value.formed, Tx.V, hu, h7]
        have hl : Try.prog.keyLits (Try.prog.types.size + 1) 25 [.int .u32 c, .int .u32 n] = some [.int .u32 c, .int .u32 n] := by
          rw [hm]
          unfold Program.keyLits
          have hi2 : Try.prog.underlying g.type = some (.int .u32) := by rw [← h5]; exact hi
          have h62 : Try.prog.cellsOf g.type = 1 := by rw [← h5]; exact h6
          simp [hu, hall, h7, hfs, h3, h4, h6, h62, Program.keyLits, hi, hi2, w1, w2]
        refine ⟨.string (keyBytes [.int .u32 c, .int .u32 n]), ?_⟩
        unfold keyOf
        simp only [hu, kt25, hform, Bool.and_self, if_true]
        show (Try.prog.keyLits (Try.prog.types.size + 1) 25 [.int .u32 c, .int .u32 n]).map _ = _
        rw [hl]
        rfl
      · cases h8
    · cases hc
  · cases hc
end Go.Proofs.Ythcbefkgfhokoaa
