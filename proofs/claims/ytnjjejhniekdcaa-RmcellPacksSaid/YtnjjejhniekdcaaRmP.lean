/- Plain words on cells that manage rates: numbers as bytes, flags, the payload. -/
import Derived.Test.YtnjjejhniekdcaaCellK
namespace Go.Proofs.Ytnjjejhniekdcaa
set_option linter.unusedVariables false
set_option linter.unusedSimpArgs false
open Go.RowKit
set_option maxRecDepth 100000
/-- a number's bytes. -/
def be2 (n : Int) : List Int := [n / 256 % 256, n % 256]
def be4 (n : Int) : List Int := [n / 16777216 % 256, n / 65536 % 256, n / 256 % 256, n % 256]
theorem be2_B (n : Int) : allB (be2 n) := by
  intro z hz; unfold isB; simp only [be2, List.mem_cons, List.not_mem_nil, or_false] at hz
  rcases hz with h | h <;> (rw [h]; omega)
theorem be4_B (n : Int) : allB (be4 n) := by
  intro z hz; unfold isB; simp only [be4, List.mem_cons, List.not_mem_nil, or_false] at hz
  rcases hz with h | h | h | h <;> (rw [h]; omega)
def flg (b : Bool) (x : Int) : Int := if b then x else 0
def flagZ (bk nr ci ni ra : Bool) : Int := flg bk 128 + flg nr 64 + flg ci 32 + flg ni 16 + flg ra 8
theorem flagZ_bd (bk nr ci ni ra : Bool) : 0 ≤ flagZ bk nr ci ni ra ∧ flagZ bk nr ci ni ra < 256 ∧ flagZ bk nr ci ni ra % 8 = 0 := by
  cases bk <;> cases nr <;> cases ci <;> cases ni <;> cases ra <;> decide
/-- a payload without its check. -/
def packZ (bk nr ci ni ra : Bool) (er cc mc ql sn : Int) : List Int := [1, flagZ bk nr ci ni ra] ++ be2 er ++ be2 cc ++ be2 mc ++ be4 ql ++ be4 sn ++ List.replicate 30 106 ++ [0, 0]
theorem packZ_len (bk nr ci ni ra : Bool) (er cc mc ql sn : Int) : (packZ bk nr ci ni ra er cc mc ql sn).length = 48 := rfl
theorem packZ_B (bk nr ci ni ra : Bool) (er cc mc ql sn : Int) : allB (packZ bk nr ci ni ra er cc mc ql sn) := by
  have hf := flagZ_bd bk nr ci ni ra
  have h1 := be2_B er; have h2 := be2_B cc; have h3 := be2_B mc; have h4 := be4_B ql; have h5 := be4_B sn
  intro z hz
  simp only [packZ, List.mem_append, List.mem_replicate] at hz
  rcases hz with (((((((h | h) | h) | h) | h) | h) | h) | h)
  · simp only [List.mem_cons, List.not_mem_nil, or_false] at h
    unfold isB
    rcases h with h | h <;> (rw [h]; omega)
  · exact h1 z h
  · exact h2 z h
  · exact h3 z h
  · exact h4 z h
  · exact h5 z h
  · unfold isB; omega
  · simp only [List.mem_cons, List.not_mem_nil, or_false] at h
    unfold isB
    rcases h with h | h <;> (rw [h]; omega)
theorem u32_or_nat (a b : Nat) (ha : a < 4294967296) (hb : b < 4294967296) : bits .or .u32 (a : Int) (b : Int) = ((a ||| b : Nat) : Int) := by
  have hor : a ||| b < 2 ^ 32 := Nat.or_lt_two_pow (by omega) (by omega)
  have h1 : (BitVec.ofInt 32 (a : Int)).toNat = a := by simp; omega
  have h2 : (BitVec.ofInt 32 (b : Int)).toNat = b := by simp; omega
  show IntKind.u32.wrap ((BitVec.ofInt 32 (a : Int) ||| BitVec.ofInt 32 (b : Int)).toNat : Int) = _
  rw [BitVec.toNat_or, h1, h2]
  simp [IntKind.bits, IntKind.wrap, IntKind.signed]
  omega
theorem u32_or_byte {a y : Int} (a0 : 0 ≤ a) (a1 : a < 16777216) (y0 : 0 ≤ y) (y1 : y < 256) : bits .or .u32 (a * 256 % 4294967296) y = a * 256 + y := by
  obtain ⟨n, rfl⟩ := Int.eq_ofNat_of_zero_le a0
  obtain ⟨m, rfl⟩ := Int.eq_ofNat_of_zero_le y0
  have e : (n : Int) * 256 % 4294967296 = ((n * 256 : Nat) : Int) := by omega
  rw [e, u32_or_nat _ _ (by omega) (by omega)]
  have := Nat.shiftLeft_add_eq_or_of_lt (i := 8) (b := m) (by omega) n
  rw [Nat.shiftLeft_eq] at this
  rw [← this]
  push_cast
  rfl
theorem u32_or_zero {y : Int} (y0 : 0 ≤ y) (y1 : y < 256) : bits .or .u32 0 y = y := by
  have := u32_or_byte (a := 0) (by omega) (by omega) y0 y1
  simpa using this
/-- are the fillers there? -/
def allF (zs : List Int) : Nat → Bool
  | 0 => true
  | k + 1 => allF zs k && (zs[16 + k]?.getD 0 == 106)
theorem allF_iff (zs : List Int) : ∀ n, allF zs n = true ↔ ∀ k, k < n → zs[16 + k]?.getD 0 = 106
  | 0 => by simp [allF]
  | n + 1 => by
    unfold allF
    rw [Bool.and_eq_true, allF_iff zs n, beq_iff_eq]
    constructor
    · rintro ⟨h1, h2⟩ k hk
      rcases Nat.lt_or_eq_of_le (Nat.le_of_lt_succ hk) with h | rfl
      · exact h1 k h
      · exact h2
    · intro h
      exact ⟨fun k hk => h k (by omega), h n (by omega)⟩
theorem allF_no {zs : List Int} {k n : Nat} (hk : k < n) (h : zs[16 + k]?.getD 0 ≠ 106) : allF zs n = false := by
  cases ha : allF zs n with
  | false => rfl
  | true => exact absurd ((allF_iff zs n).1 ha k hk) h
def fixZ (zs : List Int) : Bool := allF zs 30 && (decide (zs[1]?.getD 0 % 8 = 0) && decide (zs[46]?.getD 0 / 4 = 0))
theorem u8_and252 (z : Int) (h0 : 0 ≤ z) (h1 : z < 256) : (bits .and .u8 z 252 == 0) = decide (z / 4 = 0) := by
  obtain ⟨k, rfl⟩ := Int.eq_ofNat_of_zero_le h0
  have hall : (List.range 256).all (fun k => (bits .and .u8 (k : Int) 252 == 0) == decide ((k : Int) / 4 = 0)) = true := by kernel_rfl
  have := List.all_eq_true.1 hall k (List.mem_range.2 (by omega))
  exact eq_of_beq this
end Go.Proofs.Ytnjjejhniekdcaa
