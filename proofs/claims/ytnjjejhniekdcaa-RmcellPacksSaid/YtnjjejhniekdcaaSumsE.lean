/- The walks of the layer 'sums': the three checks, how a header's check differs, and which bit that tells. -/
import Derived.Test.YtnjjejhniekdcaaSumsC
import Derived.Test.YtnjjejhniekdcaaSame
import Derived.Test.YtnjjejhniekdcaaKit3
import Derived.KernelRfl
import Derived.WalkLawsBesides
namespace Go.Proofs.Ytnjjejhniekdcaa
set_option linter.unusedVariables false
set_option linter.unusedSimpArgs false
open Go.RowKit
set_option maxRecDepth 100000
set_option maxHeartbeats 4000000
theorem rest_at {w : World} {a : Option Addr} {len cap : Nat} {zs : List Int} (h : BytesAt w a len zs) (r top by' : Int) :
    Calls Try.prog 40 #[.slice a len cap, .int .u32 r, .int .u32 top, .int .u32 by'] w fun e w' => e = .returned (.int .u32 (restZ zs r top by')) ∧ Below w.heap.size w w' :=
  rest_any a len cap zs h.length (by have := h.most; omega) h.byte r top by' w h.cells
attribute [local irreducible] restZ
theorem ten_at {w : World} {a : Option Addr} {len cap : Nat} {zs : List Int} (h : BytesAt w a len zs) :
    Calls Try.prog 37 #[.slice a len cap] w fun e w' => e = .returned (.int .u16 (t10 zs)) ∧ Below w.heap.size w w' := by
  go_enter Try.func37, Try.ntmps37
  go_wp2_with (go_at_call 40; refine (rest_at h _ _ _).mono ?_; rintro e w' ⟨rfl, hb⟩)
  go_ret
  exact ⟨ret_int (ten_eq zs), hb⟩
/-- how a header's check differs. -/
def synd (zs : List Int) : Int := if zs = [] then 0 else bits .xor .u8 (zs[zs.length - 1]?.getD 0) (e8 zs.dropLast)
theorem BytesAt.head {w : World} {a : Option Addr} {len n : Nat} {zs : List Int} (h : BytesAt w a len zs) (hn : n ≤ len) (hp : 0 < len) : BytesAt w a n (zs.take n) := by
  refine ⟨by simp [h.length]; omega, by have := h.most; omega, fun k => ?_, fun h0 => ?_⟩
  · by_cases hk : k < n
    · rw [List.getElem?_take_of_lt hk]; exact h.byte k
    · rw [List.getElem?_take_eq_none (by omega)]; simp
  · obtain ⟨b, off, e1, e2, e3⟩ := h.cells hp
    refine ⟨b, off, e1, e2, fun k hk => ?_⟩
    rw [List.getElem?_take_of_lt hk]
    exact e3 k (by omega)
end Go.Proofs.Ytnjjejhniekdcaa
