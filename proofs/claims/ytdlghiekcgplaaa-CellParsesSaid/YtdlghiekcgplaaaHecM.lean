/- The layer 'hec': a receiver in memory; what it does with a header. -/
import Derived.Test.YtdlghiekcgplaaaChg
import Derived.Test.YtdlghiekcgplaaaSumsT
namespace Go.Proofs.Ytdlghiekcgplaaa
set_option linter.unusedVariables false
set_option linter.unusedSimpArgs false
open Go.RowKit
set_option maxRecDepth 100000
theorem results_ct {P : Program} {fn : Func} {p u : Tmp} {ty : TypeId} (h : fn.results = #[.cell p ty, .tmp u]) (tmps : Array Value) (w : World) {a : Addr} {v : Value} (hp : tmps.getD p undef = .pointer (some a)) (hl : (loadVar ty a).run P w = .ok v w) :
    (results fn tmps).run P w = .ok (.tuple #[v, tmps.getD u undef]) w := by
  have hp' : tmps[p]?.getD undef = .pointer (some a) := by simpa using hp
  simp [results, h, hp', asAddr, hl]
theorem results_c1 {P : Program} {fn : Func} {p : Tmp} {ty : TypeId} (h : fn.results = #[.cell p ty]) (tmps : Array Value) (w : World) {a : Addr} {v : Value} (hp : tmps.getD p undef = .pointer (some a)) (hl : (loadVar ty a).run P w = .ok v w) :
    (results fn tmps).run P w = .ok v w := by
  have hp' : tmps[p]?.getD undef = .pointer (some a) := by simpa using hp
  simp [results, h, hp', asAddr, hl]
theorem load_four {w : World} {g : Nat} {a b c d : Int} (h0 : w.cell? ⟨g, 0, none⟩ = some (.int .u8 a)) (h1 : w.cell? ⟨g, 1, none⟩ = some (.int .u8 b)) (h2 : w.cell? ⟨g, 2, none⟩ = some (.int .u8 c)) (h3 : w.cell? ⟨g, 3, none⟩ = some (.int .u8 d)) :
    (loadVar 40 ⟨g, 0, none⟩).run Try.prog w = .ok (.agg #[.int .u8 a, .int .u8 b, .int .u8 c, .int .u8 d]) w := by
  have hl : (loadCells ⟨g, 0, none⟩ 4).run Try.prog w = .ok #[.int .u8 a, .int .u8 b, .int .u8 c, .int .u8 d] w :=
    run_loadCells_list (P := Try.prog) w ⟨g, 0, none⟩ [.int .u8 a, .int .u8 b, .int .u8 c, .int .u8 d] (fun j v hv => by
      have hadd : (⟨g, 0, none⟩ : Addr).add j = ⟨g, j, none⟩ := by unfold Addr.add; split <;> simp_all
      rw [hadd]
      match j, hv with
      | 0, hv => simp at hv; rw [h0, hv]
      | 1, hv => simp at hv; rw [h1, hv]
      | 2, hv => simp at hv; rw [h2, hv]
      | 3, hv => simp at hv; rw [h3, hv]
      | j + 4, hv => simp at hv)
  simp [loadVar, hl]
theorem load_five {w : World} {g : Nat} {a b c d e : Int} (h0 : w.cell? ⟨g, 0, none⟩ = some (.int .u8 a)) (h1 : w.cell? ⟨g, 1, none⟩ = some (.int .u8 b)) (h2 : w.cell? ⟨g, 2, none⟩ = some (.int .u8 c)) (h3 : w.cell? ⟨g, 3, none⟩ = some (.int .u8 d)) (h4 : w.cell? ⟨g, 4, none⟩ = some (.int .u8 e)) :
    (loadVar 85 ⟨g, 0, none⟩).run Try.prog w = .ok (.agg #[.int .u8 a, .int .u8 b, .int .u8 c, .int .u8 d, .int .u8 e]) w := by
  have hl : (loadCells ⟨g, 0, none⟩ 5).run Try.prog w = .ok #[.int .u8 a, .int .u8 b, .int .u8 c, .int .u8 d, .int .u8 e] w :=
    run_loadCells_list (P := Try.prog) w ⟨g, 0, none⟩ [.int .u8 a, .int .u8 b, .int .u8 c, .int .u8 d, .int .u8 e] (fun j v hv => by
      have hadd : (⟨g, 0, none⟩ : Addr).add j = ⟨g, j, none⟩ := by unfold Addr.add; split <;> simp_all
      rw [hadd]
      match j, hv with
      | 0, hv => simp at hv; rw [h0, hv]
      | 1, hv => simp at hv; rw [h1, hv]
      | 2, hv => simp at hv; rw [h2, hv]
      | 3, hv => simp at hv; rw [h3, hv]
      | 4, hv => simp at hv; rw [h4, hv]
      | j + 5, hv => simp at hv)
  simp [loadVar, hl]
theorem frozen_top {w : World} {b o : Nat} {cs : Array Value} {E : TypeId} (hb : b = w.heap.size) : (w.alloc (.cells cs E)).frozen? ⟨b, o, none⟩ = false := by
  subst hb; exact World.frozen?_alloc_new _ _ _ _
/-- a receiver, in a block of its own. -/
def RecAt (w : World) (b : Nat) (r d : Int) (c : Bool) : Prop := w.heap[b]? = some (.cells #[.int .i64 r, .int .i64 d, .bool c] 67)
variable {w w' : World} {b : Nat} {r d : Int} {c : Bool}
theorem RecAt.lt (h : RecAt w b r d c) : b < w.heap.size := by
  unfold RecAt at h
  rcases Nat.lt_or_ge b w.heap.size with h' | h'
  · exact h'
  · simp [Array.getElem?_eq_none h'] at h
theorem RecAt.cells (h : RecAt w b r d c) : w.cell? ⟨b, 0, none⟩ = some (.int .i64 r) ∧ w.cell? ⟨b, 1, none⟩ = some (.int .i64 d) ∧ w.cell? ⟨b, 2, none⟩ = some (.bool c) ∧ ∀ o, w.frozen? ⟨b, o, none⟩ = false := by
  unfold RecAt at h
  refine ⟨?_, ?_, ?_, fun o => frozen_of_row w b o _ _ h⟩ <;> rw [cell_of_row w b _ _ _ _ h] <;> rfl
theorem RecAt.other {k : Nat} (h : RecAt w b r d c) (hc : Chg k w w') (hn : b ≠ k) : RecAt w' b r d c := (hc.block b h.lt hn).trans h
theorem RecAt.below (h : RecAt w b r d c) (hb : Below w.heap.size w w') : RecAt w' b r d c := (hb.block b h.lt).trans h
theorem RecAt.alloc (h : RecAt w b r d c) (o : Obj) : RecAt (w.alloc o) b r d c := h.below ((Below.refl _ _).alloc (Nat.le_refl _) o)
theorem RecAt.drewN (h : RecAt w b r d c) (m : Nat) : RecAt (w.drewN m) b r d c := h
theorem RecAt.drew (h : RecAt w b r d c) : RecAt w.drew b r d c := h
theorem RecAt.set0 {r' : Int} (h : RecAt w b r d c) : RecAt (w.setCell ⟨b, 0, none⟩ (.int .i64 r')) b r' d c := heap_setCell_same w b 0 _ _ _ h
theorem RecAt.set1 {d' : Int} (h : RecAt w b r d c) : RecAt (w.setCell ⟨b, 1, none⟩ (.int .i64 d')) b r d' c := heap_setCell_same w b 1 _ _ _ h
theorem RecAt.set2 {c' : Bool} (h : RecAt w b r d c) : RecAt (w.setCell ⟨b, 2, none⟩ (.bool c')) b r d c' := heap_setCell_same w b 2 _ _ _ h
theorem RecAt.beside {k o : Nat} {v : Value} (h : RecAt w b r d c) (hn : b ≠ k) : RecAt (w.setCell ⟨k, o, none⟩ v) b r d c := (Below.heap_setCell w ⟨k, o, none⟩ v b hn).trans h
/-- is it repaired? -/
def fixes (c : Bool) (zs : List Int) : Bool := (synd zs != 0) && !c && (bitOf (synd zs)).isSome
def drops (c : Bool) (zs : List Int) : Bool := (synd zs != 0) && !(!c && (bitOf (synd zs)).isSome)
def takes (c : Bool) (zs : List Int) : List Int := if synd zs = 0 then zs.take 4 else if fixes c zs then (flipZ zs ((bitOf (synd zs)).getD 0)).take 4 else [0, 0, 0, 0]
def oneIf (b : Bool) : Int := if b then 1 else 0
def agg4 (zs : List Int) : Value := .agg (zs.map (Value.int .u8)).toArray
end Go.Proofs.Ytdlghiekcgplaaa
