/- A slice of arrays of bytes that came in. -/
import Derived.Test.YtlkfgldkgddgaaaOpen
import Derived.Test.YtlkfgldkgddgaaaSame
namespace Go.Proofs.Ytlkfgldkgddgaaa
set_option linter.unusedVariables false
set_option linter.unusedSimpArgs false
open Go.RowKit Go.ChangeShapes Go.WideShapes Go.ChangeAt
/-- a slice of arrays of m bytes: byte j of array i is f i j. -/
structure ArrsAt (w : World) (a : Option Addr) (len m : Nat) (f : Nat → Nat → Int) : Prop where
  most : len ≤ 100000
  byte : ∀ i j : Nat, 0 ≤ f i j ∧ f i j < 256
  cells : 0 < len → ∃ b off, a = some ⟨b, off, none⟩ ∧ b < w.heap.size ∧ ∀ i, i < len → ∀ j, j < m → w.cell? ⟨b, off + (i * m + j), none⟩ = some (.int .u8 (f i j))
theorem ArrsAt.below {w w' : World} {a : Option Addr} {len m : Nat} {f : Nat → Nat → Int} (h : ArrsAt w a len m f) (hb : Below w.heap.size w w') : ArrsAt w' a len m f :=
  ⟨h.most, h.byte, fun hp => by
    obtain ⟨b, off, h1, h2, h3⟩ := h.cells hp
    exact ⟨b, off, h1, Nat.lt_of_lt_of_le h2 hb.size, fun i hi j hj => (hb.cell (p := ⟨b, off + (i * m + j), none⟩) h2).trans (h3 i hi j hj)⟩⟩
theorem fits_bytes : ∀ (m : Nat) {cs : List Value}, fitsAll (List.replicate m (some .u8)) cs → cs.length = m ∧ ∀ j (hj : j < cs.length), ∃ x : Int, cs[j] = .int .u8 x ∧ 0 ≤ x ∧ x < 256
  | 0, cs, h => by obtain rfl := fits_nil h; exact ⟨rfl, fun j hj => by simp at hj⟩
  | m + 1, cs, h => by
    obtain ⟨c, cs', rfl, ⟨x, rfl, hw⟩, g⟩ := fits_cons (show fitsAll (some .u8 :: List.replicate m (some .u8)) cs from h)
    obtain ⟨h1, h2⟩ := fits_bytes m g
    refine ⟨by simp [h1], fun j hj => ?_⟩
    cases j with
    | zero => exact ⟨x, rfl, wf_u8 hw⟩
    | succ j => simpa using h2 j (by simpa using hj)
theorem open_arrs {H : Type} {enc : TypeId × Value → H} {P : Program} {w w' : World} {r : Reach} {b0 base : Nat} {spare : Nat → Bool} {held : Bool} {t e : TypeId} {v : Value} {d : DataW H} {p : List MemPlace} {n m : Nat}
    (ht : P.underlying t = some (.slice e)) (hl : leaves P n e = some (List.replicate m (some .u8))) (hm0 : 0 < m) (hc : P.cellsOf e = m) (hv : Value.okWide P w' r b0 t v) (h : DataW.Trod enc P w base spare held t v d p) :
    ∃ (a : Option Addr) (len cap : Nat) (f : Nat → Nat → Int), v = .slice a len cap ∧ len ≤ cap ∧ cap ≤ maxLen ∧ (len ≤ 100000 → ArrsAt w a len m f) ∧ (a = none → cap = 0) := by
  obtain ⟨a, len, cap, es, rfl, h1, h2, h3, h4, h5, h6⟩ := open_rows (n := n) ht hl (by omega) hv h
  have hx : ∀ i (hi : i < es.length), es[i].length = m ∧ ∀ j (hj : j < es[i].length), ∃ x : Int, es[i][j] = .int .u8 x ∧ 0 ≤ x ∧ x < 256 := fun i hi => fits_bytes m (h4 _ (List.getElem_mem hi))
  refine ⟨a, len, cap, fun i j => match (es[i]?.getD [])[j]? with | some (.int _ x) => x | _ => 0, rfl, h1, h2, fun hm => ⟨hm, fun i j => ?_, fun hp => ?_⟩, h6⟩
  · by_cases hi : i < es.length
    · by_cases hj : j < es[i].length
      · obtain ⟨x, e1, e2, e3⟩ := (hx i hi).2 j hj
        simp [hi, hj, e1, e2, e3]
      · simp [hi, List.getElem?_eq_none (Nat.le_of_not_lt hj)]
    · simp [List.getElem?_eq_none (Nat.le_of_not_lt hi)]
  · obtain ⟨b, off, rfl, hb, hcell⟩ := h5 hp
    refine ⟨b, off, rfl, hb, fun i hi j hj => ?_⟩
    have hi' : i < es.length := by omega
    have hj' : j < es[i].length := by rw [(hx i hi').1]; exact hj
    have := hcell i hi' j (by omega)
    rw [hc] at this
    rw [this]
    obtain ⟨x, e1, e2, e3⟩ := (hx i hi').2 j hj'
    simp [hi', hj', e1]
end Go.Proofs.Ytlkfgldkgddgaaa
