/- A slice of cells with their gaps that came in, opened; and one of numbers. -/
import Derived.Test.YtndmmhljphlhjaaOpen
import Derived.Test.YtndmmhljphlhjaaPolCl
namespace Go.Proofs.Ytndmmhljphlhjaa
set_option linter.unusedVariables false
set_option linter.unusedSimpArgs false
open Go.ChangeShapes Go.WideShapes Go.ChangeAt Go.RowKit
theorem map_ex {α β : Type} (f : β → α) : ∀ (l : List α), (∀ x ∈ l, ∃ y, x = f y) → ∃ ys : List β, l = ys.map f
  | [], _ => ⟨[], rfl⟩
  | x :: l, h => by
    obtain ⟨y, rfl⟩ := h x (by simp)
    obtain ⟨ys, rfl⟩ := map_ex f l (fun z hz => h z (by simp [hz]))
    exact ⟨y :: ys, rfl⟩
theorem fits_cl {cs : List Value} (h : fitsAll [some .u32, none] cs) : ∃ x : {x : Cl // 0 ≤ x.g ∧ x.g < 4294967296}, cs = [.int .u32 x.1.g, .bool x.1.low] := by
  obtain ⟨_, _, rfl, ⟨x0, rfl, w0⟩, g0⟩ := fits_cons h
  obtain ⟨_, _, rfl, ⟨x1, rfl⟩, g1⟩ := fits_cons g0
  obtain rfl := fits_nil g1
  exact ⟨⟨⟨x0, x1⟩, (wf_u32 w0).1, (wf_u32 w0).2⟩, rfl⟩
theorem open_cls {H : Type} {enc : TypeId × Value → H} {P : Program} {w w' : World} {r : Reach} {b0 base : Nat} {spare : Nat → Bool} {held : Bool} {t e : TypeId} {v : Value} {d : DataW H} {p : List MemPlace} {n : Nat}
    (ht : P.underlying t = some (.slice e)) (hl : leaves P n e = some [some .u32, none]) (hc : P.cellsOf e = 2) (hv : Value.okWide P w' r b0 t v) (h : DataW.Trod enc P w base spare held t v d p) :
    ∃ (a : Option Addr) (len cap : Nat) (cs : List Cl), v = .slice a len cap ∧ len ≤ cap ∧ cap ≤ maxLen ∧ ClAt w a len cs := by
  obtain ⟨a, len, cap, es, rfl, h1, h2, h3, h4, h5, h6⟩ := open_rows (n := n) ht hl (by omega) hv h
  obtain ⟨cs, rfl⟩ := map_ex (fun x : {x : Cl // 0 ≤ x.g ∧ x.g < 4294967296} => [Value.int .u32 x.1.g, .bool x.1.low]) es (fun x hx => fits_cl (h4 x hx))
  refine ⟨a, len, cap, cs.map Subtype.val, rfl, h1, h2, by simpa using h3, fun x hx => ?_, fun hp => ?_⟩
  · obtain ⟨y, _, rfl⟩ := List.mem_map.1 hx; exact y.2
  obtain ⟨b, off, rfl, hb, hcell⟩ := h5 hp
  refine ⟨b, off, rfl, hb, fun i x hx => ?_⟩
  rw [List.getElem?_map] at hx
  obtain ⟨y, hy, rfl⟩ := Option.map_eq_some_iff.1 hx
  obtain ⟨hi, hxe⟩ := List.getElem?_eq_some_iff.1 hy
  have key : ∀ j, j < 2 → w.cell? ⟨b, off + i * 2 + j, none⟩ = [Value.int .u32 y.1.g, .bool y.1.low][j]? := fun j hj => by
    have := hcell i (by simpa using hi) j (by omega)
    rw [hc] at this
    rw [Nat.add_assoc, this, List.getElem_map, hxe]
  exact ⟨key 0 (by omega), key 1 (by omega)⟩
theorem fits_u16 {cs : List Value} (h : fitsAll [some .u16] cs) : ∃ x : {x : Int // 0 ≤ x ∧ x < 65536}, cs = [.int .u16 x.1] := by
  obtain ⟨_, _, rfl, ⟨x0, rfl, w0⟩, g0⟩ := fits_cons h
  obtain rfl := fits_nil g0
  exact ⟨⟨x0, (wf_u16 w0).1, (wf_u16 w0).2⟩, rfl⟩
theorem open_u16s {H : Type} {enc : TypeId × Value → H} {P : Program} {w w' : World} {r : Reach} {b0 base : Nat} {spare : Nat → Bool} {held : Bool} {t e : TypeId} {v : Value} {d : DataW H} {p : List MemPlace} {n : Nat}
    (ht : P.underlying t = some (.slice e)) (hl : leaves P n e = some [some .u16]) (hc : P.cellsOf e = 1) (hv : Value.okWide P w' r b0 t v) (h : DataW.Trod enc P w base spare held t v d p) :
    ∃ (a : Option Addr) (len cap : Nat) (zs : List Int), v = .slice a len cap ∧ len ≤ cap ∧ cap ≤ maxLen ∧ U16At w a len zs := by
  obtain ⟨a, len, cap, es, rfl, h1, h2, h3, h4, h5, h6⟩ := open_rows (n := n) ht hl (by omega) hv h
  obtain ⟨cs, rfl⟩ := map_ex (fun x : {x : Int // 0 ≤ x ∧ x < 65536} => [Value.int .u16 x.1]) es (fun x hx => fits_u16 (h4 x hx))
  refine ⟨a, len, cap, cs.map Subtype.val, rfl, h1, h2, by simpa using h3, fun x hx => ?_, fun hp => ?_⟩
  · obtain ⟨y, _, rfl⟩ := List.mem_map.1 hx; exact y.2
  obtain ⟨b, off, rfl, hb, hcell⟩ := h5 hp
  refine ⟨b, off, rfl, hb, fun i x hx => ?_⟩
  rw [List.getElem?_map] at hx
  obtain ⟨y, hy, rfl⟩ := Option.map_eq_some_iff.1 hx
  obtain ⟨hi, hxe⟩ := List.getElem?_eq_some_iff.1 hy
  have := hcell i (by simpa using hi) 0 (by omega)
  rw [hc] at this
  simp only [Nat.mul_one, Nat.add_zero, List.getElem_map, hxe] at this
  exact this
end Go.Proofs.Ytndmmhljphlhjaa
