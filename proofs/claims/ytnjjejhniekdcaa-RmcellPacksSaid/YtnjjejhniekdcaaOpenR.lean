/- An array of bytes, its length as large as one likes, out of the frame. -/
import Derived.Test.YtnjjejhniekdcaaOpen
namespace Go.Proofs.Ytnjjejhniekdcaa
set_option linter.unusedVariables false
open Go.RowKit
theorem fits_bytes : ∀ {n : Nat} {cs : List Value} (h : fitsAll (List.replicate n (some .u8)) cs), ∃ zs : List Int, cs = zs.map (Value.int .u8) ∧ zs.length = n ∧ ∀ z ∈ zs, 0 ≤ z ∧ z < 256
  | 0, cs, h => ⟨[], by rw [fits_nil h]; rfl, rfl, fun _ h => nomatch h⟩
  | n + 1, cs, h => by
    rw [List.replicate_succ] at h
    obtain ⟨_, _, rfl, ⟨x, rfl, w⟩, g⟩ := fits_cons h
    obtain ⟨zs, rfl, hl, hz⟩ := fits_bytes g
    have hb := wf_u8 w
    refine ⟨x :: zs, rfl, by simp [hl], fun z hm => ?_⟩
    rcases List.mem_cons.1 hm with rfl | hm
    · omega
    · exact hz z hm
end Go.Proofs.Ytnjjejhniekdcaa
