/- The walks of the layer 'sums': bits, one behind the other; a register behind bytes. -/
import Derived.Test.YtndmmhljphlhjaaKit2
import Derived.RangeFuncNested
import Derived.RangeFuncBound
import Derived.RangeFuncCalls
import Derived.RangeFuncLeaves
import Derived.RangeFuncFrom
import Derived.Shelf.Abstract
import Derived.Shelf.RegionOpen
import Derived.WalkKit
import Derived.OwnWalkIn
import Derived.TacticsInMore
import Derived.LoopNIn
import Derived.LoopIn
namespace Go.Proofs.Ytndmmhljphlhjaa
set_option linter.unusedVariables false
set_option linter.unusedSimpArgs false
open Go.RowKit Go.Shelf
set_option maxRecDepth 100000
set_option maxHeartbeats 4000000
attribute [local go_sem] Oper.semAt_some
def bitAt (z : Int) (j : Nat) : Bool := z / 2 ^ (7 - j) % 2 == 1
def bit8 (z : Int) : List Bool := (List.range 8).map (bitAt z)
def bitsL (zs : List Int) : List Bool := zs.flatMap bit8
/-- what has come when k bytes are over, and j bits of the next one. -/
def upto (zs : List Int) (k j : Nat) : List Bool := bitsL (zs.take k) ++ (bit8 (zs[k]?.getD 0)).take j
theorem bit8_len (z : Int) : (bit8 z).length = 8 := by simp [bit8]
theorem bitsL_len (zs : List Int) : (bitsL zs).length = 8 * zs.length := by
  induction zs with
  | nil => rfl
  | cons z zs ih =>
    have e : bitsL (z :: zs) = bit8 z ++ bitsL zs := rfl
    rw [e, List.length_append, ih, bit8_len, List.length_cons]; omega
theorem upto_len (zs : List Int) (k j : Nat) (hk : k ≤ zs.length) (hj : j ≤ 8) : (upto zs k j).length = 8 * k + j := by
  unfold upto
  rw [List.length_append, bitsL_len, List.length_take, List.length_take, bit8_len]; omega
theorem upto_snoc (zs : List Int) (k j : Nat) (hj : j < 8) : upto zs k j ++ [bitAt (zs[k]?.getD 0) j] = upto zs k (j + 1) := by
  unfold upto
  rw [List.append_assoc]
  congr 1
  rw [List.take_succ_eq_append_getElem (by rw [bit8_len]; omega)]
  congr 1
  simp [bit8]
theorem upto_next (zs : List Int) (k : Nat) (hk : k < zs.length) : upto zs k 8 = upto zs (k + 1) 0 := by
  unfold upto
  have e1 : (bit8 (zs[k]?.getD 0)).take 8 = bit8 (zs[k]?.getD 0) := List.take_of_length_le (by rw [bit8_len]; omega)
  rw [e1, List.take_zero, List.append_nil, List.take_succ_eq_append_getElem hk]
  unfold bitsL
  rw [List.flatMap_append]
  simp [hk]
theorem upto_all (zs : List Int) : upto zs zs.length 0 = bitsL zs := by
  unfold upto; rw [List.take_length, List.take_zero, List.append_nil]
theorem upto_zero (zs : List Int) : upto zs 0 0 = [] := rfl
theorem upto_prefix (zs : List Int) (k j : Nat) (hk : k < zs.length) (hj : j ≤ 8) : upto zs k j <+: bitsL zs := by
  refine List.IsPrefix.trans (l₂ := upto zs (k + 1) 0) ?_ ?_
  · rw [← upto_next zs k hk]
    unfold upto
    exact (List.prefix_append_right_inj _).2 (List.take_prefix_take_left (by omega))
  · unfold upto
    rw [List.take_zero, List.append_nil]
    unfold bitsL
    exact ⟨(zs.drop (k + 1)).flatMap bit8, by rw [← List.flatMap_append, List.take_append_drop]⟩
theorem bit_test (z : Int) (j : Nat) (h0 : 0 ≤ z) (h1 : z < 256) : (bits BinOp.and IntKind.u8 (z / 2 ^ (7 - j)) 1 == 1) = bitAt z j := by
  have h2 : 0 ≤ z / 2 ^ (7 - j) := Int.ediv_nonneg h0 (Int.pow_nonneg (by omega))
  have h3 : z / 2 ^ (7 - j) ≤ z := Int.ediv_le_self _ h0
  unfold bitAt
  rw [show bits BinOp.and IntKind.u8 (z / 2 ^ (7 - j)) 1 = z / 2 ^ (7 - j) % 2 from bits_mask .u8 8 (by decide) wraps_u8 1 (by decide) _ h2 (by omega)]
def stepR (top by' mask r : Int) (bit : Bool) : Int :=
  if (bits .and .u32 r top != 0) == bit then bits .and .u32 (r * 2 % 4294967296) mask else bits .xor .u32 (bits .and .u32 (r * 2 % 4294967296) mask) by'
def maskR (top : Int) : Int := (top * 2 - 1) % 4294967296
def restZ (zs : List Int) (r top by' : Int) : Int := (bitsL zs).foldl (stepR top by' (maskR top)) r
end Go.Proofs.Ytndmmhljphlhjaa
