/- The walks of the reference's checks. -/
import Derived.Test.YtnjjejhniekdcaaRestW
import Derived.Test.YtnjjejhniekdcaaSumsE
namespace Go.Proofs.Ytnjjejhniekdcaa
set_option linter.unusedVariables false
set_option linter.unusedSimpArgs false
open Go.RowKit Crc
set_option maxRecDepth 100000
set_option maxHeartbeats 4000000
theorem rest8_lit {w : World} {a : Option Addr} {len cap : Nat} {bs : List Bool} (h : IntsAt w a len (bs.map bitI)) (hnone : a = none → cap = 0) (hlen : len ≤ 1000000) :
    Calls Try.prog 39 #[.slice a len cap, .int .u64 7, .int .i64 8, .bool false] w fun e w' => e = .returned (.int .u64 ((crcV 7#8 0#8 bs).toNat : Int)) ∧ Below w.heap.size w w' :=
  restRef_f (cap := cap) 7#8 h hnone hlen (by decide) (by decide) 0#8 rfl
theorem rest10_lit {w : World} {a : Option Addr} {len cap : Nat} {bs : List Bool} (h : IntsAt w a len (bs.map bitI)) (hnone : a = none → cap = 0) (hlen : len ≤ 1000000) :
    Calls Try.prog 39 #[.slice a len cap, .int .u64 563, .int .i64 10, .bool false] w fun e w' => e = .returned (.int .u64 ((crcV 563#10 0#10 bs).toNat : Int)) ∧ Below w.heap.size w w' :=
  restRef_f (cap := cap) 563#10 h hnone hlen (by decide) (by decide) 0#10 rfl
theorem rest32_lit {w : World} {a : Option Addr} {len cap : Nat} {bs : List Bool} (h : IntsAt w a len (bs.map bitI)) (hnone : a = none → cap = 0) (hlen : len ≤ 1000000) :
    Calls Try.prog 39 #[.slice a len cap, .int .u64 79764919, .int .i64 32, .bool true] w fun e w' => e = .returned (.int .u64 ((crcV 79764919#32 (BitVec.allOnes 32) bs).toNat : Int)) ∧ Below w.heap.size w w' :=
  restRef_t (cap := cap) 79764919#32 h hnone hlen (by decide) (by decide) (BitVec.allOnes 32) rfl
theorem refBits_at {w : World} {a : Option Addr} {len cap : Nat} {zs : List Int} (h : BytesAt w a len zs) (hlen : len ≤ 100000) :
    Calls Try.prog 38 #[.slice a len cap] w fun e w' => ∃ b c, e = .returned (.slice b (8 * len) c) ∧ IntsAt w' b (8 * len) ((bitsL zs).map bitI) ∧ (b = none → c = 0) ∧ 8 * len ≤ c ∧ c ≤ 9223372036854775807 ∧ Below w.heap.size w w' :=
  (refBits_any h (by omega)).mono fun e w' hh => by
    obtain ⟨v, rfl, ho, hb⟩ := hh
    obtain ⟨b, c, rfl, h1, h2, h3, h4, h5⟩ := ho.at (by omega)
    exact ⟨b, c, rfl, h3, (fun hn => by rcases h5 with h5 | ⟨x, h5⟩; exact h5.2; rw [h5] at hn; cases hn), h1, h2, hb⟩
theorem e8_of (zs : List Int) : bits .xor .u8 ((crcV 7#8 0#8 (bitsL zs)).toNat : Int) 85 = e8 zs := by
  have h := eight_eq zs
  rw [rest8] at h
  have hl := (c8 zs).isLt
  rw [Int.emod_eq_of_lt (by omega) (by omega)] at h
  exact h
theorem t10_of (zs : List Int) : ((crcV 563#10 0#10 (bitsL zs)).toNat : Int) = t10 zs := by
  have h := ten_eq zs
  have hl := (c10 zs).isLt
  rw [rest10, IntKind.wrap_u16, Int.emod_eq_of_lt (by omega) (by omega)] at h
  exact h
theorem l32_of (zs : List Int) : bits .xor .u32 IntKind.u32.max ((crcV 79764919#32 4294967295#32 (bitsL zs)).toNat : Int) = l32 zs := by
  have h := long_eq zs
  rw [rest32] at h
  exact h
end Go.Proofs.Ytnjjejhniekdcaa
