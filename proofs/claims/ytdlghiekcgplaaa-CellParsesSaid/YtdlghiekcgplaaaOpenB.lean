/- A slice of bytes that came in. -/
import Derived.Test.YtdlghiekcgplaaaOpen
import Derived.Test.YtdlghiekcgplaaaSame
namespace Go.Proofs.Ytdlghiekcgplaaa
set_option linter.unusedVariables false
set_option linter.unusedSimpArgs false
open Go.RowKit Go.ChangeShapes Go.WideShapes Go.ChangeAt
theorem fits_u8 {cs : List Value} (h : fitsAll [some .u8] cs) : ∃ x : Int, cs = [.int .u8 x] ∧ 0 ≤ x ∧ x < 256 := by
  obtain ⟨_, _, rfl, ⟨x, rfl, w⟩, g⟩ := fits_cons h
  obtain rfl := fits_nil g
  exact ⟨x, rfl, wf_u8 w⟩
theorem open_bytes {H : Type} {enc : TypeId × Value → H} {P : Program} {w w' : World} {r : Reach} {b0 base : Nat} {spare : Nat → Bool} {held : Bool} {t e : TypeId} {v : Value} {d : DataW H} {p : List MemPlace}
    (ht : P.underlying t = some (.slice e)) (hl : leaves P 2 e = some [some .u8]) (hc : P.cellsOf e = 1) (hv : Value.okWide P w' r b0 t v) (h : DataW.Trod enc P w base spare held t v d p) :
    ∃ (a : Option Addr) (len cap : Nat) (zs : List Int), v = .slice a len cap ∧ len ≤ cap ∧ cap ≤ maxLen ∧ (len ≤ 140737488355328 → BytesAt w a len zs) ∧ (a = none → cap = 0) := by
  obtain ⟨a, len, cap, es, rfl, h1, h2, h3, h4, h5, h6⟩ := open_rows (n := 2) ht hl (by omega) hv h
  have hx : ∀ i (hi : i < es.length), ∃ x : Int, es[i] = [.int .u8 x] ∧ 0 ≤ x ∧ x < 256 := fun i hi => fits_u8 (h4 _ (List.getElem_mem hi))
  obtain ⟨zs, hz1, hz2⟩ : ∃ zs : List Int, zs.length = len ∧ ∀ i (hi : i < es.length), es[i] = [.int .u8 (zs[i]?.getD 0)] ∧ 0 ≤ zs[i]?.getD 0 ∧ zs[i]?.getD 0 < 256 := by
    refine ⟨es.map fun x => match x with | [.int _ n] => n | _ => 0, by simp [h3], fun i hi => ?_⟩
    obtain ⟨x, e1, e2, e3⟩ := hx i hi
    simp [hi, e1, e2, e3]
  refine ⟨a, len, cap, zs, rfl, h1, h2, fun hm => ⟨hz1, hm, fun k => ?_, fun hp => ?_⟩, h6⟩
  · by_cases hk : k < es.length
    · exact (hz2 k hk).2
    · rw [List.getElem?_eq_none (by omega)]; simp
  · obtain ⟨b, off, rfl, hb, hcell⟩ := h5 hp
    have hlt : b < w.heap.size := by
      have := hcell 0 (by omega) 0 (by omega)
      have e0 := (hz2 0 (by omega)).1
      rw [e0] at this
      exact World.block_lt_of_cell? w _ this
    refine ⟨b, off, rfl, hlt, fun k hk => ?_⟩
    have := hcell k (by omega) 0 (by omega)
    rw [(hz2 k (by omega)).1, hc] at this
    simpa using this
end Go.Proofs.Ytdlghiekcgplaaa
