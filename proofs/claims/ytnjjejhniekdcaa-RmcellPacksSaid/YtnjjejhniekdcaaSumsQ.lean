/- The plain law of the checks, over bytes: they are linear. -/
import Derived.Test.YtnjjejhniekdcaaSumsC
namespace Go.Proofs.Ytnjjejhniekdcaa
set_option linter.unusedVariables false
set_option linter.unusedSimpArgs false
open Go.RowKit Crc
def isB (z : Int) : Prop := 0 ≤ z ∧ z < 256
def allB (zs : List Int) : Prop := ∀ z ∈ zs, isB z
theorem allB_of {zs : List Int} (h : ∀ k : Nat, 0 ≤ zs[k]?.getD 0 ∧ zs[k]?.getD 0 < 256) : allB zs := by
  intro z hz
  obtain ⟨i, hi, rfl⟩ := List.getElem_of_mem hz
  have := h i
  rw [List.getElem?_eq_getElem hi] at this
  exact this
theorem bitAt_nat (n j : Nat) : bitAt (n : Int) j = n.testBit (7 - j) := by
  unfold bitAt
  rw [Nat.testBit_eq_decide_div_mod_eq, int_div_pow]
  have e : ((n / 2 ^ (7 - j) : Nat) : Int) % 2 = ((n / 2 ^ (7 - j) % 2 : Nat) : Int) := by omega
  rw [e, Bool.eq_iff_iff]
  generalize n / 2 ^ (7 - j) % 2 = q
  simp only [beq_iff_eq, decide_eq_true_eq]
  omega
theorem bitAt_xor {a b : Int} (ha : isB a) (hb : isB b) (j : Nat) : bitAt (bits .xor .u8 a b) j = (bitAt a j != bitAt b j) := by
  obtain ⟨m, rfl⟩ := Int.eq_ofNat_of_zero_le ha.1
  obtain ⟨n, rfl⟩ := Int.eq_ofNat_of_zero_le hb.1
  have h1 := ha.2
  have h2 := hb.2
  rw [u8_xor_nat m n (by omega) (by omega), bitAt_nat, bitAt_nat, bitAt_nat, Nat.testBit_xor]
theorem xor_isB {a b : Int} (ha : isB a) (hb : isB b) : isB (bits .xor .u8 a b) := by
  obtain ⟨m, rfl⟩ := Int.eq_ofNat_of_zero_le ha.1
  obtain ⟨n, rfl⟩ := Int.eq_ofNat_of_zero_le hb.1
  have h1 := ha.2
  have h2 := hb.2
  have h3 : m ^^^ n < 2 ^ 8 := Nat.xor_lt_two_pow (by omega) (by omega)
  rw [u8_xor_nat m n (by omega) (by omega)]
  unfold isB
  omega
theorem bit8_xor {a b : Int} (ha : isB a) (hb : isB b) : bit8 (bits .xor .u8 a b) = xorL (bit8 a) (bit8 b) := by
  unfold bit8 xorL
  rw [List.zipWith_map, List.zipWith_self]
  exact List.map_congr_left fun j _ => bitAt_xor ha hb j
def xorB (xs ys : List Int) : List Int := List.zipWith (bits .xor .u8) xs ys
theorem xorB_len {xs ys : List Int} (h : xs.length = ys.length) : (xorB xs ys).length = xs.length := by simp [xorB, h]
theorem xorL_append {a b c d : List Bool} (h : a.length = c.length) : xorL (a ++ b) (c ++ d) = xorL a c ++ xorL b d := by
  unfold xorL; exact List.zipWith_append h
theorem bitsL_cons (z : Int) (zs : List Int) : bitsL (z :: zs) = bit8 z ++ bitsL zs := rfl
theorem bitsL_append (xs ys : List Int) : bitsL (xs ++ ys) = bitsL xs ++ bitsL ys := by unfold bitsL; rw [List.flatMap_append]
theorem bitsL_xor : ∀ {xs ys : List Int}, xs.length = ys.length → allB xs → allB ys → bitsL (xorB xs ys) = xorL (bitsL xs) (bitsL ys)
  | [], [], _, _, _ => rfl
  | x :: xs, y :: ys, h, hx, hy => by
    show bitsL (bits .xor .u8 x y :: xorB xs ys) = _
    rw [bitsL_cons, bitsL_cons, bitsL_cons, xorL_append (by simp [bit8_len]), bit8_xor (hx x (by simp)) (hy y (by simp)), bitsL_xor (by simpa using h) (fun z hz => hx z (by simp [hz])) (fun z hz => hy z (by simp [hz]))]
theorem allB_xor {xs ys : List Int} (hx : allB xs) (hy : allB ys) : allB (xorB xs ys) := by
  intro z hz
  unfold xorB at hz
  rw [List.mem_iff_getElem] at hz
  obtain ⟨i, hi, rfl⟩ := hz
  rw [List.getElem_zipWith]
  exact xor_isB (hx _ (List.getElem_mem _)) (hy _ (List.getElem_mem _))
theorem c8_xor {xs ys : List Int} (h : xs.length = ys.length) (hx : allB xs) (hy : allB ys) : c8 (xorB xs ys) = c8 xs ^^^ c8 ys := by
  unfold c8
  rw [bitsL_xor h hx hy]
  have := crcV_xor 7#8 (bitsL xs) (bitsL ys) 0#8 0#8 (by rw [bitsL_len, bitsL_len, h])
  simpa using this
theorem c10_xor {xs ys : List Int} (h : xs.length = ys.length) (hx : allB xs) (hy : allB ys) : c10 (xorB xs ys) = c10 xs ^^^ c10 ys := by
  unfold c10
  rw [bitsL_xor h hx hy]
  have := crcV_xor 563#10 (bitsL xs) (bitsL ys) 0#10 0#10 (by rw [bitsL_len, bitsL_len, h])
  simpa using this
/-- a long register that begins with 0. -/
def k32 (zs : List Int) : BitVec 32 := crcV 79764919#32 0#32 (bitsL zs)
theorem c32_xor {xs ys : List Int} (h : xs.length = ys.length) (hx : allB xs) (hy : allB ys) : c32 (xorB xs ys) = c32 xs ^^^ k32 ys := by
  unfold c32 k32
  rw [bitsL_xor h hx hy]
  have := crcV_xor 79764919#32 (bitsL xs) (bitsL ys) (BitVec.allOnes 32) 0#32 (by rw [bitsL_len, bitsL_len, h])
  rw [BitVec.xor_zero] at this
  exact this
theorem k32_two {xs ys : List Int} (h : xs.length = ys.length) (hx : allB xs) (hy : allB ys) : k32 (xorB xs ys) = c32 xs ^^^ c32 ys := by
  unfold c32 k32
  rw [bitsL_xor h hx hy]
  have := crcV_xor 79764919#32 (bitsL xs) (bitsL ys) (BitVec.allOnes 32) (BitVec.allOnes 32) (by rw [bitsL_len, bitsL_len, h])
  rw [BitVec.xor_self] at this
  exact this
/-- the checks of three texts' exclusive or. -/
def join3 (xs ys zs : List Int) : List Int := xorB xs (xorB ys zs)
theorem e8_nat (zs : List Int) : e8 zs = (((c8 zs ^^^ 85#8).toNat : Nat) : Int) := by unfold e8; rfl
theorem t10_nat (zs : List Int) : t10 zs = (((c10 zs).toNat : Nat) : Int) := by unfold t10; rfl
theorem l32_nat (zs : List Int) : l32 zs = (((~~~ c32 zs).toNat : Nat) : Int) := by unfold l32; rfl
theorem u16_xor_nat (a b : Nat) (ha : a < 65536) (hb : b < 65536) : bits .xor .u16 (a : Int) (b : Int) = ((a ^^^ b : Nat) : Int) := by
  have hor : a ^^^ b < 2 ^ 16 := Nat.xor_lt_two_pow (by omega) (by omega)
  have h1 : (BitVec.ofInt 16 (a : Int)).toNat = a := by simp; omega
  have h2 : (BitVec.ofInt 16 (b : Int)).toNat = b := by simp; omega
  show IntKind.u16.wrap ((BitVec.ofInt 16 (a : Int) ^^^ BitVec.ofInt 16 (b : Int)).toNat : Int) = _
  rw [BitVec.toNat_xor, h1, h2]
  simp [IntKind.bits, IntKind.wrap, IntKind.signed]
  omega
theorem join8 {xs ys zs : List Int} (h1 : ys.length = xs.length) (h2 : zs.length = xs.length) (hx : allB xs) (hy : allB ys) (hz : allB zs) :
    bits .xor .u8 (bits .xor .u8 (e8 xs) (e8 ys)) (e8 zs) = e8 (join3 xs ys zs) := by
  have b (v : BitVec 8) : v.toNat < 256 := v.isLt
  rw [e8_nat, e8_nat, e8_nat, e8_nat, u8_xor_nat _ _ (b _) (b _), ← BitVec.toNat_xor, u8_xor_nat _ _ (b _) (b _), ← BitVec.toNat_xor]
  unfold join3
  rw [c8_xor (by rw [xorB_len (by omega)]; omega) hx (allB_xor hy hz), c8_xor (by omega) hy hz]
  congr 2
  generalize c8 xs = u
  generalize c8 ys = v
  generalize c8 zs = t
  rw [show u ^^^ 85#8 ^^^ (v ^^^ 85#8) ^^^ (t ^^^ 85#8) = u ^^^ (v ^^^ t) ^^^ 85#8 by
    ext i hi
    simp only [BitVec.getElem_xor]
    cases u[i] <;> cases v[i] <;> cases t[i] <;> cases (85#8)[i] <;> rfl]
theorem join10 {xs ys zs : List Int} (h1 : ys.length = xs.length) (h2 : zs.length = xs.length) (hx : allB xs) (hy : allB ys) (hz : allB zs) :
    bits .xor .u16 (bits .xor .u16 (t10 xs) (t10 ys)) (t10 zs) = t10 (join3 xs ys zs) := by
  have b (v : BitVec 10) : v.toNat < 65536 := Nat.lt_trans v.isLt (by decide)
  rw [t10_nat, t10_nat, t10_nat, t10_nat, u16_xor_nat _ _ (b _) (b _), ← BitVec.toNat_xor, u16_xor_nat _ _ (b _) (b _), ← BitVec.toNat_xor]
  unfold join3
  rw [c10_xor (by rw [xorB_len (by omega)]; omega) hx (allB_xor hy hz), c10_xor (by omega) hy hz, BitVec.xor_assoc]
theorem join32 {xs ys zs : List Int} (h1 : ys.length = xs.length) (h2 : zs.length = xs.length) (hx : allB xs) (hy : allB ys) (hz : allB zs) :
    bits .xor .u32 (bits .xor .u32 (l32 xs) (l32 ys)) (l32 zs) = l32 (join3 xs ys zs) := by
  have b (v : BitVec 32) : v.toNat < 4294967296 := v.isLt
  rw [l32_nat, l32_nat, l32_nat, l32_nat, u32_xor_nat _ _ (b _) (b _), ← BitVec.toNat_xor, u32_xor_nat _ _ (b _) (b _), ← BitVec.toNat_xor]
  unfold join3
  rw [c32_xor (by rw [xorB_len (by omega)]; omega) hx (allB_xor hy hz), k32_two (by omega) hy hz]
  congr 2
  generalize c32 xs = u
  generalize c32 ys = v
  generalize c32 zs = t
  ext i hi
  simp only [BitVec.getElem_xor, BitVec.getElem_not]
  cases u[i] <;> cases v[i] <;> cases t[i] <;> rfl
end Go.Proofs.Ytnjjejhniekdcaa
