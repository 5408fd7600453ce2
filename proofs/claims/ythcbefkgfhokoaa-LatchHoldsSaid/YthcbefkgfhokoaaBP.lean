import Derived.Test.YthcbefkgfhokoaaBN
import Derived.Test.YthcbefkgfhokoaaFwJ
import Derived.Test.YthcbefkgfhokoaaRows
import Derived.WalkKit
import Derived.ProofKit
import Derived.OpenShut
/- The laws' arguments. -/
namespace Go.Proofs.Ythcbefkgfhokoaa
open Go Go.Dv Go.ChangeShapes Go.WideShapes Go.ChangeAt Go.RowKit
open Classical
set_option maxRecDepth 100000

theorem mapsOk : mapsRowed Try.prog = true := by kernel_rfl
theorem slPosOk : slPos Try.prog = true := by kernel_rfl
theorem own : ownKnob Try.prog.godebug = none := by kernel_rfl

structure Act where
  what : Int
  tx : Tx
  start : Sm
  min : Sm
  prim : ByteArray
  wv : Value
  ws : List Wr
  frm : ByteArray
  til : ByteArray
  bv : Value
  but : List Tx
def Act.cells (a : Act) : List Value := [.int .i64 a.what, .int .u32 a.tx.c, .int .u32 a.tx.n, .int .u64 a.start.p, .int .u32 a.start.l, .int .u64 a.min.p, .int .u32 a.min.l, .string a.prim, a.wv, .string a.frm, .string a.til, a.bv]
structure Act.ok (R : HP) (a : Act) : Prop where
  tx : a.tx.ok
  start : a.start.nn
  min : a.min.nn
  ws : RdS R 3 a.wv (wcs a.ws)
  wl : a.ws.length ≤ maxLen
  but : RdS R 2 a.bv (a.but.map Tx.cells)
  bl : a.but.length ≤ maxLen

def txSh : Sh := .st [.int .u32, .int .u32]
def smSh : Sh := .st [.int .u64, .int .u32]
def wrSh : Sh := .st [.str, .str, .bool]
def actSh : Sh := .st [.int .i64, txSh, smSh, smSh, .str, .sl 3 wrSh, .str, .str, .sl 2 txSh]
theorem sh32 : shOf Try.prog 6 32 = some actSh := by kernel_rfl

theorem rd_tx {R : HP} {x : List Value} (h : RdSh R txSh x) : ∃ t : Tx, x = t.cells ∧ t.ok := by
  obtain ⟨c1, c2, rfl, ⟨n1, rfl, w1⟩, c3, c4, rfl, ⟨n2, rfl, w2⟩, h4⟩ := h
  have : c4 = [] := h4
  subst this
  have b1 := bounds_u32 w1
  have b2 := bounds_u32 w2
  exact ⟨⟨n1, n2⟩, rfl, ⟨by dsimp only; omega, by dsimp only; omega⟩⟩
theorem rd_sm {R : HP} {x : List Value} (h : RdSh R smSh x) : ∃ t : Sm, x = t.cells ∧ t.nn := by
  obtain ⟨c1, c2, rfl, ⟨n1, rfl, w1⟩, c3, c4, rfl, ⟨n2, rfl, w2⟩, h4⟩ := h
  have : c4 = [] := h4
  subst this
  have b1 := bounds_u64 w1
  have b2 := bounds_u32 w2
  exact ⟨⟨n1, n2⟩, rfl, ⟨by dsimp only; omega, by dsimp only; omega⟩⟩
theorem rd_wr {R : HP} {x : List Value} (h : RdSh R wrSh x) : ∃ t : Wr, x = t.cells ∧ True := by
  obtain ⟨c1, c2, rfl, ⟨n1, rfl, _⟩, c3, c4, rfl, ⟨n2, rfl, _⟩, c5, c6, rfl, ⟨n3, rfl⟩, h4⟩ := h
  have : c6 = [] := h4
  subst this
  exact ⟨⟨n1, n2, n3⟩, rfl, trivial⟩
theorem rd_act {R : HP} {x : List Value} (h : RdSh R actSh x) : ∃ a : Act, x = a.cells ∧ a.ok R := by
  obtain ⟨_, _, rfl, ⟨n1, rfl, _⟩, _, _, rfl, h2, _, _, rfl, h3, _, _, rfl, h4, _, _, rfl, ⟨s5, rfl, _⟩, _, _, rfl, ⟨v6, x6, rfl, r6, l6, e6⟩, _, _, rfl, ⟨s7, rfl, _⟩, _, _, rfl, ⟨s8, rfl, _⟩, _, _, rfl, ⟨v9, x9, rfl, r9, l9, e9⟩, h10⟩ := h
  obtain ⟨t2, rfl, o2⟩ := rd_tx h2
  obtain ⟨t3, rfl, o3⟩ := rd_sm h3
  obtain ⟨t4, rfl, o4⟩ := rd_sm h4
  obtain ⟨ws, rfl, _⟩ := list_choose (f := Wr.cells) (p := fun _ => True) fun x hx => rd_wr (e6 x hx)
  obtain ⟨bt, rfl, _⟩ := list_choose (f := Tx.cells) (p := Tx.ok) fun x hx => rd_tx (e9 x hx)
  rw [show _ = _ from h10]
  refine ⟨⟨n1, t2, t3, t4, s5, v6, ws, s7, s8, v9, bt⟩, rfl, ⟨o2, o3, o4, r6, by simpa using l6, r9, by simpa using l9⟩⟩

theorem okw_slice {P : Program} {W : World} {r : Reach} {b t e : Nat} {v : Value} (hu : P.underlying t = some (.slice e)) (h : Value.okWide P W r b t v) : ∃ a l c, v = .slice a l c := by
  simp only [Value.okWide, hu, Cell.okWide] at h
  cases v <;> simp [Cell.ok, hu] at h
  exact ⟨_, _, _, rfl⟩
theorem okw_struct {P : Program} {W : World} {r : Reach} {b t : Nat} {fs : Array Field} {v : Value} (hu : P.underlying t = some (.struct fs)) (h : Value.okWide P W r b t v) : ∃ cs, v = .agg cs := by
  simp only [Value.okWide, hu] at h
  obtain ⟨cs, rfl, _⟩ := h
  exact ⟨cs, rfl⟩
theorem act_arg {W : World} {r : Reach} {b : Nat} {v : Value} {H : Type} {enc : TypeId × Value → H} {sp : Nat → Bool} {held : Bool} {d : DataW H} {ps : List MemPlace} (h : Value.okWide Try.prog W r b 32 v) (ht : DataW.Trod enc Try.prog W 0 sp held 32 v d ps) :
    ∃ a : Act, v = .agg a.cells.toArray ∧ a.ok (Old W) := by
  obtain ⟨fuel, ht⟩ := ht
  have h32 : (32 : Nat) < Try.prog.types.size := of_decide_eq_true (by kernel_rfl)
  have h2 : (match Try.prog.underlying 32 with | some (.struct _) => true | _ => false) = true := by kernel_rfl
  split at h2
  · rename_i fs hu
    obtain ⟨cs, rfl⟩ := okw_struct hu h
    obtain ⟨a, ha, hok⟩ := rd_act (rdsh_of laidOut 6 32 actSh fuel _ _ h32 sh32 ht)
    exact ⟨a, by rw [← ha]; rfl, hok⟩
  · cases h2
end Go.Proofs.Ythcbefkgfhokoaa
