/- Cells with gaps in memory; their times. -/
import Derived.Test.YtndmmhljphlhjaaPolA
namespace Go.Proofs.Ytndmmhljphlhjaa
set_option linter.unusedVariables false
set_option linter.unusedSimpArgs false
open Go.RowKit
structure Cl where
  g : Int
  low : Bool
structure ClAt (w : World) (a : Option Addr) (len : Nat) (cs : List Cl) : Prop where
  length : cs.length = len
  fine : ∀ x ∈ cs, 0 ≤ x.g ∧ x.g < 4294967296
  cells : 0 < len → ∃ b off, a = some ⟨b, off, none⟩ ∧ b < w.heap.size ∧ ∀ i x, cs[i]? = some x → w.cell? ⟨b, off + i * 2, none⟩ = some (.int .u32 x.g) ∧ w.cell? ⟨b, off + i * 2 + 1, none⟩ = some (.bool x.low)
theorem ClAt.below {w w' : World} {a : Option Addr} {len : Nat} {cs : List Cl} (h : ClAt w a len cs) (hb : Below w.heap.size w w') : ClAt w' a len cs :=
  ⟨h.length, h.fine, fun hp => by
    obtain ⟨b, off, e1, e2, e3⟩ := h.cells hp
    exact ⟨b, off, e1, Nat.lt_of_lt_of_le e2 hb.size, fun i x hx => ⟨(hb.cell (p := ⟨b, _, none⟩) e2).trans (e3 i x hx).1, (hb.cell (p := ⟨b, _, none⟩) e2).trans (e3 i x hx).2⟩⟩⟩
/-- a contract's six cells. -/
def Box6 (k p e wh b l : Int) (q : Nat) (w : World) : Prop := w.cell? ⟨q, 0, none⟩ = some (.int .i64 k) ∧ w.cell? ⟨q, 1, none⟩ = some (.int .i64 p) ∧ w.cell? ⟨q, 2, none⟩ = some (.int .i64 e) ∧ w.cell? ⟨q, 3, none⟩ = some (.int .i64 wh) ∧ w.cell? ⟨q, 4, none⟩ = some (.int .i64 b) ∧ w.cell? ⟨q, 5, none⟩ = some (.int .i64 l)
theorem Box6.below {k p e wh b l : Int} {q : Nat} {w w' : World} (h : Box6 k p e wh b l q w) (hb : Below w.heap.size w w') : Box6 k p e wh b l q w' :=
  ⟨cell_keep hb h.1, cell_keep hb h.2.1, cell_keep hb h.2.2.1, cell_keep hb h.2.2.2.1, cell_keep hb h.2.2.2.2.1, cell_keep hb h.2.2.2.2.2⟩
theorem Box6.new (k p e wh b l : Int) (t : TypeId) (w : World) : Box6 k p e wh b l w.heap.size (w.alloc (.cells #[.int .i64 k, .int .i64 p, .int .i64 e, .int .i64 wh, .int .i64 b, .int .i64 l] t)) :=
  ⟨cell_top rfl rfl, cell_top rfl rfl, cell_top rfl rfl, cell_top rfl rfl, cell_top rfl rfl, cell_top rfl rfl⟩
theorem Box6.lt {k p e wh b l : Int} {q : Nat} {w : World} (h : Box6 k p e wh b l q w) : q < w.heap.size := World.block_lt_of_cell? _ _ h.1
/-- the sum of the gaps. -/
def gapS (cs : List Cl) : Int := (cs.map Cl.g).sum
theorem gapS_step {cs : List Cl} {k : Nat} {x : Cl} (h : cs[k]? = some x) : gapS (cs.take (k + 1)) = gapS (cs.take k) + x.g := by
  unfold gapS
  rw [List.take_add_one, h, List.map_append, List.sum_append]; simp
theorem gapS_bd {cs : List Cl} (h : ∀ x ∈ cs, 0 ≤ x.g ∧ x.g < 4294967296) : ∀ k, 0 ≤ gapS (cs.take k) ∧ gapS (cs.take k) ≤ 4294967296 * (k : Int) := by
  intro k
  induction k with
  | zero => simp [gapS]
  | succ k ih =>
    cases hx : cs[k]? with
    | none =>
      have : cs.take (k + 1) = cs.take k := by rw [List.take_add_one, hx]; simp
      rw [this]; omega
    | some x =>
      rw [gapS_step hx]
      have := h x (List.mem_of_getElem? hx)
      omega
/-- numbers in a row. -/
structure U16At (w : World) (a : Option Addr) (len : Nat) (zs : List Int) : Prop where
  length : zs.length = len
  fine : ∀ z ∈ zs, 0 ≤ z ∧ z < 65536
  cells : 0 < len → ∃ b off, a = some ⟨b, off, none⟩ ∧ b < w.heap.size ∧ ∀ i z, zs[i]? = some z → w.cell? ⟨b, off + i, none⟩ = some (.int .u16 z)
theorem U16At.below {w w' : World} {a : Option Addr} {len : Nat} {zs : List Int} (h : U16At w a len zs) (hb : Below w.heap.size w w') : U16At w' a len zs :=
  ⟨h.length, h.fine, fun hp => by
    obtain ⟨b, off, e1, e2, e3⟩ := h.cells hp
    exact ⟨b, off, e1, Nat.lt_of_lt_of_le e2 hb.size, fun i z hz => (hb.cell (p := ⟨b, _, none⟩) e2).trans (e3 i z hz)⟩⟩
theorem sumZ_step {zs : List Int} {k : Nat} {z : Int} (h : zs[k]? = some z) : (zs.take (k + 1)).sum = (zs.take k).sum + z := by
  rw [List.take_add_one, h, List.sum_append]; simp
theorem sumZ_bd {zs : List Int} (h : ∀ x ∈ zs, 0 ≤ x ∧ x < 65536) : ∀ k, 0 ≤ (zs.take k).sum ∧ (zs.take k).sum ≤ 65536 * (k : Int) := by
  intro k
  induction k with
  | zero => simp
  | succ k ih =>
    cases hx : zs[k]? with
    | none =>
      have e : zs.take (k + 1) = zs.take k := by rw [List.take_add_one, hx]; simp
      rw [e]; omega
    | some x =>
      rw [sumZ_step hx]
      have := h x (List.mem_of_getElem? hx)
      omega
end Go.Proofs.Ytndmmhljphlhjaa
