/- The plain law of the checks, over bytes: what stands ahead of others, and behind them. -/
import Derived.Test.YtnjjejhniekdcaaSumsQ
namespace Go.Proofs.Ytnjjejhniekdcaa
set_option linter.unusedVariables false
set_option linter.unusedSimpArgs false
open Go.RowKit Crc
theorem bit8_zero : bit8 0 = List.replicate 8 false := by decide
theorem bitsL_zeros (n : Nat) : bitsL (List.replicate n 0) = List.replicate (8 * n) false := by
  induction n with
  | zero => rfl
  | succ n ih => rw [List.replicate_succ, bitsL_cons, ih, bit8_zero, List.replicate_append_replicate]; congr 1; omega
theorem c8_zeros (n : Nat) (zs : List Int) : c8 (List.replicate n 0 ++ zs) = c8 zs := by
  unfold c8; rw [bitsL_append, bitsL_zeros, crcV_append, crcV_zeros]
theorem c10_zeros (n : Nat) (zs : List Int) : c10 (List.replicate n 0 ++ zs) = c10 zs := by
  unfold c10; rw [bitsL_append, bitsL_zeros, crcV_append, crcV_zeros]
theorem e8_zeros (n : Nat) (zs : List Int) : e8 (List.replicate n 0 ++ zs) = e8 zs := by rw [e8_nat, e8_nat, c8_zeros]
theorem t10_zeros (n : Nat) (zs : List Int) : t10 (List.replicate n 0 ++ zs) = t10 zs := by rw [t10_nat, t10_nat, c10_zeros]
theorem e8_none : e8 [] = 85 := by kernel_rfl
theorem t10_none : t10 [] = 0 := by kernel_rfl
theorem e8_zero (n : Nat) : e8 (List.replicate n 0) = 85 := by have := e8_zeros n []; rw [List.append_nil] at this; rw [this, e8_none]
theorem t10_zero (n : Nat) : t10 (List.replicate n 0) = 0 := by have := t10_zeros n []; rw [List.append_nil] at this; rw [this, t10_none]
/-- a register's bits, as a byte. -/
theorem bit8_reg (v : BitVec 8) : bit8 (v.toNat : Int) = hi v 8 := by
  unfold bit8 hi
  refine List.map_congr_left fun j hj => ?_
  simp only [List.mem_range] at hj
  rw [bitAt_nat, BitVec.getMsbD_eq_getLsbD]
  simp [hj, BitVec.getLsbD]
theorem c8_own (zs : List Int) : c8 (zs ++ [((c8 zs).toNat : Int)]) = 0#8 := by
  unfold c8
  rw [bitsL_append, crcV_append]
  show crcV 7#8 (crcV 7#8 0#8 (bitsL zs)) (bit8 _ ++ []) = 0#8
  rw [List.append_nil, bit8_reg]
  exact crcV_own _ _
theorem e8_x (zs : List Int) : bits .xor .u8 (e8 zs) 85 = ((c8 zs).toNat : Int) := by
  have b (v : BitVec 8) : v.toNat < 256 := v.isLt
  rw [e8_nat]
  have := u8_xor_nat (c8 zs ^^^ 85#8).toNat 85 (b _) (by decide)
  have e : ((85 : Nat) : Int) = 85 := rfl
  rw [e] at this
  have h2 : (c8 zs ^^^ 85#8).toNat ^^^ 85 = (c8 zs).toNat := by
    rw [BitVec.toNat_xor]
    show (c8 zs).toNat ^^^ 85 ^^^ 85 = _
    rw [Nat.xor_assoc, Nat.xor_self, Nat.xor_zero]
  rw [this, h2]
theorem e8_own (zs : List Int) : e8 (zs ++ [bits .xor .u8 (e8 zs) 85]) = 85 := by
  rw [e8_x, e8_nat, c8_own]; rfl
theorem bitAt_part (n i j : Nat) (hj : j < 8) : bitAt ((n : Int) / 2 ^ i % 256) j = n.testBit (i + (7 - j)) := by
  have e : (n : Int) / 2 ^ i % 256 = ((n / 2 ^ i % 2 ^ 8 : Nat) : Int) := by rw [int_div_pow]; omega
  rw [e, bitAt_nat, Nat.testBit_mod_two_pow, Nat.testBit_div_two_pow]
  rw [decide_eq_true (by omega), Bool.true_and, Nat.add_comm]
/-- a number's four bytes, the highest first. -/
def four (c : Int) : List Int := [c / 16777216 % 256, c / 65536 % 256, c / 256 % 256, c % 256]
theorem bits_four (v : BitVec 32) : bitsL (four (v.toNat : Int)) = hi v 32 := by
  have h0 := fun j hj => bitAt_part v.toNat 24 j hj
  have h1 := fun j hj => bitAt_part v.toNat 16 j hj
  have h2 := fun j hj => bitAt_part v.toNat 8 j hj
  have h3 := fun j hj => bitAt_part v.toNat 0 j hj
  have g (i j : Nat) (h : i + (7 - j) < 32) : v.toNat.testBit (i + (7 - j)) = v.getMsbD (31 - (i + (7 - j))) := by
    rw [BitVec.getMsbD_eq_getLsbD]
    have : 32 - 1 - (31 - (i + (7 - j))) = i + (7 - j) := by omega
    rw [this]
    simp [BitVec.getLsbD]
    omega
  have k0 : bit8 ((v.toNat : Int) / 16777216 % 256) = (List.range 8).map fun j => v.getMsbD j := List.map_congr_left fun j hj => by
    simp only [List.mem_range] at hj
    have := h0 j hj
    rw [show ((2 : Int) ^ 24) = 16777216 from rfl] at this
    rw [this, g 24 j (by omega)]; congr 1; omega
  have k1 : bit8 ((v.toNat : Int) / 65536 % 256) = (List.range 8).map fun j => v.getMsbD (8 + j) := List.map_congr_left fun j hj => by
    simp only [List.mem_range] at hj
    have := h1 j hj
    rw [show ((2 : Int) ^ 16) = 65536 from rfl] at this
    rw [this, g 16 j (by omega)]; congr 1; omega
  have k2 : bit8 ((v.toNat : Int) / 256 % 256) = (List.range 8).map fun j => v.getMsbD (16 + j) := List.map_congr_left fun j hj => by
    simp only [List.mem_range] at hj
    have := h2 j hj
    rw [show ((2 : Int) ^ 8) = 256 from rfl] at this
    rw [this, g 8 j (by omega)]; congr 1; omega
  have k3 : bit8 ((v.toNat : Int) % 256) = (List.range 8).map fun j => v.getMsbD (24 + j) := List.map_congr_left fun j hj => by
    simp only [List.mem_range] at hj
    have := h3 j hj
    rw [show ((2 : Int) ^ 0) = 1 from rfl, Int.ediv_one] at this
    rw [this, g 0 j (by omega)]; congr 1; omega
  unfold four
  rw [bitsL_cons, bitsL_cons, bitsL_cons, bitsL_cons, k0, k1, k2, k3]
  unfold hi
  rfl
theorem l32_own (zs : List Int) : l32 (zs ++ four (l32 zs)) = 955982468 := by
  have h1 : c32 (zs ++ four (l32 zs)) = crcV 79764919#32 0#32 (xorL (hi (c32 zs) 32) (hi (~~~ c32 zs) 32)) := by
    unfold c32
    rw [bitsL_append, crcV_append]
    show crcV _ (c32 zs) (bitsL (four (l32 zs))) = _
    rw [l32_nat, bits_four, crcV_as _ _ _ (hi_len _ _)]
    rfl
  have h2 : xorL (hi (c32 zs) 32) (hi (~~~ c32 zs) 32) = List.replicate 32 true := by
    rw [List.eq_replicate_iff]
    constructor
    · rw [xorL_len _ _ (by rw [hi_len, hi_len]), hi_len]
    · intro b hb
      unfold xorL hi at hb
      rw [List.zipWith_map, List.zipWith_self, List.mem_map] at hb
      obtain ⟨j, hj, rfl⟩ := hb
      simp only [List.mem_range] at hj
      rw [BitVec.getMsbD_not]
      simp [hj]
  rw [l32_nat, h1, h2]
  have e : (~~~ crcV 79764919#32 0#32 (List.replicate 32 true)).toNat = 955982468 := by kernel_rfl
  rw [e]; rfl
end Go.Proofs.Ytnjjejhniekdcaa
