/- The checks as bit vectors: what the walk's words for them are. -/
import Derived.Test.YtnjjejhniekdcaaSumsW
import Derived.Test.YtnjjejhniekdcaaSumsP
import Derived.KernelRfl
namespace Go.Proofs.Ytnjjejhniekdcaa
set_option linter.unusedVariables false
set_option linter.unusedSimpArgs false
open Go.RowKit Crc
set_option maxRecDepth 100000
theorem and_pow (a i : Nat) : a &&& 2 ^ i = if a.testBit i then 2 ^ i else 0 := by
  apply Nat.eq_of_testBit_eq
  intro j
  rw [Nat.testBit_and, Nat.testBit_two_pow]
  by_cases h : i = j
  · subst h
    cases a.testBit i <;> simp
  · cases a.testBit i <;> simp [h, Nat.testBit_two_pow]
theorem u32_and_nat (a b : Nat) (ha : a < 4294967296) (hb : b < 4294967296) : bits .and .u32 (a : Int) (b : Int) = ((a &&& b : Nat) : Int) := by
  have hor : a &&& b < 2 ^ 32 := Nat.lt_of_le_of_lt Nat.and_le_left (by omega)
  have h1 : (BitVec.ofInt 32 (a : Int)).toNat = a := by simp; omega
  have h2 : (BitVec.ofInt 32 (b : Int)).toNat = b := by simp; omega
  show IntKind.u32.wrap ((BitVec.ofInt 32 (a : Int) &&& BitVec.ofInt 32 (b : Int)).toNat : Int) = _
  rw [BitVec.toNat_and, h1, h2]
  simp [IntKind.bits, IntKind.wrap, IntKind.signed]
  omega
theorem u32_xor_nat (a b : Nat) (ha : a < 4294967296) (hb : b < 4294967296) : bits .xor .u32 (a : Int) (b : Int) = ((a ^^^ b : Nat) : Int) := by
  have hor : a ^^^ b < 2 ^ 32 := Nat.xor_lt_two_pow (by omega) (by omega)
  have h1 : (BitVec.ofInt 32 (a : Int)).toNat = a := by simp; omega
  have h2 : (BitVec.ofInt 32 (b : Int)).toNat = b := by simp; omega
  show IntKind.u32.wrap ((BitVec.ofInt 32 (a : Int) ^^^ BitVec.ofInt 32 (b : Int)).toNat : Int) = _
  rw [BitVec.toNat_xor, h1, h2]
  simp [IntKind.bits, IntKind.wrap, IntKind.signed]
  omega
theorem u8_xor_nat (a b : Nat) (ha : a < 256) (hb : b < 256) : bits .xor .u8 (a : Int) (b : Int) = ((a ^^^ b : Nat) : Int) := by
  have hor : a ^^^ b < 2 ^ 8 := Nat.xor_lt_two_pow (by omega) (by omega)
  have h1 : (BitVec.ofInt 8 (a : Int)).toNat = a := by simp; omega
  have h2 : (BitVec.ofInt 8 (b : Int)).toNat = b := by simp; omega
  show IntKind.u8.wrap ((BitVec.ofInt 8 (a : Int) ^^^ BitVec.ofInt 8 (b : Int)).toNat : Int) = _
  rw [BitVec.toNat_xor, h1, h2]
  simp [IntKind.bits, IntKind.wrap, IntKind.signed]
  omega
theorem msb_test {n : Nat} (v : BitVec n) (h : 0 < n) : v.msb = v.toNat.testBit (n - 1) := by
  rw [BitVec.msb_eq_getLsbD_last]; rfl
theorem stepR_eq {n : Nat} (hn : 0 < n) (hn2 : n ≤ 32) (g v : BitVec n) (b : Bool) :
    stepR ((2 ^ (n - 1) : Nat) : Int) (g.toNat : Int) ((2 ^ n - 1 : Nat) : Int) (v.toNat : Int) b = ((stepV g v b).toNat : Int) := by
  have hp : 2 ^ n ≤ 2 ^ 32 := Nat.pow_le_pow_right (by decide) hn2
  have hp1 : 2 ^ n = 2 * 2 ^ (n - 1) := by
    conv => lhs; rw [show n = (n - 1) + 1 by omega]
    rw [Nat.pow_succ, Nat.mul_comm]
  have hv := v.isLt
  have hg := g.isLt
  have hpos : 0 < 2 ^ (n - 1) := Nat.pow_pos (by decide)
  have e1 : (bits .and .u32 (v.toNat : Int) ((2 ^ (n - 1) : Nat) : Int) != 0) = v.msb := by
    rw [u32_and_nat _ _ (by omega) (by omega), and_pow, msb_test v hn]
    cases v.toNat.testBit (n - 1)
    · rfl
    · have h0 : ((2 ^ (n - 1) : Nat) : Int) ≠ 0 := by omega
      rw [if_pos rfl]
      exact bne_iff_ne.2 h0
  have e2 : ((v.toNat : Int) * 2 % 4294967296) = ((v.toNat * 2 % 4294967296 : Nat) : Int) := by omega
  have e3 : bits .and .u32 ((v.toNat : Int) * 2 % 4294967296) ((2 ^ n - 1 : Nat) : Int) = (((v <<< 1).toNat : Nat) : Int) := by
    rw [e2, u32_and_nat _ _ (Nat.mod_lt _ (by decide)) (by omega), Nat.and_two_pow_sub_one_eq_mod, BitVec.toNat_shiftLeft, Nat.shiftLeft_eq, Nat.pow_one]
    have hd : 2 ^ n ∣ 4294967296 := ⟨2 ^ (32 - n), by rw [← Nat.pow_add]; rw [show n + (32 - n) = 32 by omega]⟩
    rw [Nat.mod_mod_of_dvd _ hd]
  have hs := (v <<< 1).isLt
  unfold stepR stepV
  rw [e1, e3]
  by_cases hb : v.msb = b
  · subst hb
    simp
  · have hb' : (v.msb != b) = true := by simpa using hb
    have hb2 : (v.msb == b) = false := by simpa using hb
    rw [if_neg (by rw [hb2]; simp), if_pos hb', u32_xor_nat _ _ (by omega) (by omega), BitVec.toNat_xor]
theorem restZ_eq {n : Nat} (hn : 0 < n) (hn2 : n ≤ 32) (g v : BitVec n) (zs : List Int) :
    restZ zs (v.toNat : Int) ((2 ^ (n - 1) : Nat) : Int) (g.toNat : Int) = ((crcV g v (bitsL zs)).toNat : Int) := by
  have hp1 : 2 ^ n = 2 * 2 ^ (n - 1) := by
    conv => lhs; rw [show n = (n - 1) + 1 by omega]
    rw [Nat.pow_succ, Nat.mul_comm]
  have hp : 2 ^ n ≤ 2 ^ 32 := Nat.pow_le_pow_right (by decide) hn2
  have hpos : 0 < 2 ^ (n - 1) := Nat.pow_pos (by decide)
  have hm : maskR ((2 ^ (n - 1) : Nat) : Int) = ((2 ^ n - 1 : Nat) : Int) := by
    unfold maskR
    rw [hp1]
    omega
  unfold restZ crcV
  rw [hm]
  generalize bitsL zs = bs
  induction bs generalizing v with
  | nil => rfl
  | cons b bs ih => rw [List.foldl_cons, stepR_eq hn hn2, ih]; rfl
/-- the three registers. -/
def c8 (zs : List Int) : BitVec 8 := crcV 7#8 0#8 (bitsL zs)
def c10 (zs : List Int) : BitVec 10 := crcV 563#10 0#10 (bitsL zs)
def c32 (zs : List Int) : BitVec 32 := crcV 79764919#32 (BitVec.allOnes 32) (bitsL zs)
def e8 (zs : List Int) : Int := ((c8 zs ^^^ 85#8).toNat : Int)
def t10 (zs : List Int) : Int := ((c10 zs).toNat : Int)
def l32 (zs : List Int) : Int := ((~~~ c32 zs).toNat : Int)
theorem rest8 (zs : List Int) : restZ zs 0 128 7 = ((c8 zs).toNat : Int) := restZ_eq (n := 8) (by decide) (by decide) 7#8 0#8 zs
theorem rest10 (zs : List Int) : restZ zs 0 512 563 = ((c10 zs).toNat : Int) := restZ_eq (n := 10) (by decide) (by decide) 563#10 0#10 zs
theorem rest32 (zs : List Int) : restZ zs 4294967295 2147483648 79764919 = ((c32 zs).toNat : Int) := restZ_eq (n := 32) (by decide) (by decide) 79764919#32 (BitVec.allOnes 32) zs
theorem eight_eq (zs : List Int) : bits .xor .u8 (restZ zs 0 128 7 % 256) 85 = e8 zs := by
  have h := (c8 zs).isLt
  rw [rest8]
  have e : ((c8 zs).toNat : Int) % 256 = (((c8 zs).toNat : Nat) : Int) := by omega
  rw [e]
  unfold e8
  rw [BitVec.toNat_xor]
  exact u8_xor_nat (c8 zs).toNat 85 (by omega) (by omega)
theorem ten_eq (zs : List Int) : IntKind.u16.wrap (restZ zs 0 512 563) = t10 zs := by
  have h := (c10 zs).isLt
  rw [rest10]
  unfold t10
  simp [IntKind.bits, IntKind.wrap, IntKind.signed]
  omega
theorem long_eq (zs : List Int) : bits .xor .u32 IntKind.u32.max (restZ zs 4294967295 2147483648 79764919) = l32 zs := by
  have h := (c32 zs).isLt
  rw [rest32]
  unfold l32
  have e : bits .xor .u32 IntKind.u32.max ((c32 zs).toNat : Int) = ((4294967295 ^^^ (c32 zs).toNat : Nat) : Int) := u32_xor_nat 4294967295 (c32 zs).toNat (by decide) (by omega)
  rw [e]
  have e2 : (~~~ c32 zs) = BitVec.allOnes 32 ^^^ c32 zs := BitVec.not_def
  rw [e2, BitVec.toNat_xor]
  rfl
theorem e8_bd (zs : List Int) : 0 ≤ e8 zs ∧ e8 zs < 256 := by have := (c8 zs ^^^ 85#8).isLt; unfold e8; omega
theorem t10_bd (zs : List Int) : 0 ≤ t10 zs ∧ t10 zs < 1024 := by have := (c10 zs).isLt; unfold t10; omega
theorem l32_bd (zs : List Int) : 0 ≤ l32 zs ∧ l32 zs < 4294967296 := by have := (~~~ c32 zs).isLt; unfold l32; omega
attribute [irreducible] e8 t10 l32
end Go.Proofs.Ytnjjejhniekdcaa
