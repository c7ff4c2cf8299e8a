import Derived.Laws.AppendOwn
import Derived.Laws.AppendOwnNone
import Derived.Laws.OwnMore
import Derived.ProofKit
import Derived.Test.YtaoagbnhomjkpaaGreatZTopRates00
import Derived.Test.YtaoagbnhomjkpaaGreatZTopRates01
/- The plain law of the checks, over bytes: they are linear. -/
namespace Go.Proofs.YtaoagbnhomjkpaaGreat
set_option linter.unusedVariables false
set_option linter.unusedSimpArgs false
open Go.RowKit Crc
def isB (z : Int) : Prop := 0 ≤ z ∧ z < 256
def allB (zs : List Int) : Prop := ∀ z ∈ zs, isB z
theorem allB_of {zs : List Int} (h : ∀ k : Nat, 0 ≤ zs[k]?.getD 0 ∧ zs[k]?.getD 0 < 256) : allB zs := by
  intro z hz
  obtain ⟨i, hi, rfl⟩ := List.getElem_of_mem hz
  have := h i
  rw [List.getElem?_eq_getElem hi] at this
  exact this
theorem bitAt_nat (n j : Nat) : bitAt (n : Int) j = n.testBit (7 - j) := by
  unfold bitAt
  rw [Nat.testBit_eq_decide_div_mod_eq, int_div_pow]
  have e : ((n / 2 ^ (7 - j) : Nat) : Int) % 2 = ((n / 2 ^ (7 - j) % 2 : Nat) : Int) := by omega
  rw [e, Bool.eq_iff_iff]
  generalize n / 2 ^ (7 - j) % 2 = q
  simp only [beq_iff_eq, decide_eq_true_eq]
  omega
theorem bitAt_xor {a b : Int} (ha : isB a) (hb : isB b) (j : Nat) : bitAt (bits .xor .u8 a b) j = (bitAt a j != bitAt b j) := by
  obtain ⟨m, rfl⟩ := Int.eq_ofNat_of_zero_le ha.1
  obtain ⟨n, rfl⟩ := Int.eq_ofNat_of_zero_le hb.1
  have h1 := ha.2
  have h2 := hb.2
  rw [u8_xor_nat m n (by omega) (by omega), bitAt_nat, bitAt_nat, bitAt_nat, Nat.testBit_xor]
theorem xor_isB {a b : Int} (ha : isB a) (hb : isB b) : isB (bits .xor .u8 a b) := by
  obtain ⟨m, rfl⟩ := Int.eq_ofNat_of_zero_le ha.1
  obtain ⟨n, rfl⟩ := Int.eq_ofNat_of_zero_le hb.1
  have h1 := ha.2
  have h2 := hb.2
  have h3 : m ^^^ n < 2 ^ 8 := Nat.xor_lt_two_pow (by omega) (by omega)
  rw [u8_xor_nat m n (by omega) (by omega)]
  unfold isB
  omega
theorem bit8_xor {a b : Int} (ha : isB a) (hb : isB b) : bit8 (bits .xor .u8 a b) = xorL (bit8 a) (bit8 b) := by
  unfold bit8 xorL
  rw [List.zipWith_map, List.zipWith_self]
  exact List.map_congr_left fun j _ => bitAt_xor ha hb j
def xorB (xs ys : List Int) : List Int := List.zipWith (bits .xor .u8) xs ys
theorem xorB_len {xs ys : List Int} (h : xs.length = ys.length) : (xorB xs ys).length = xs.length := by simp [xorB, h]
theorem xorL_append {a b c d : List Bool} (h : a.length = c.length) : xorL (a ++ b) (c ++ d) = xorL a c ++ xorL b d := by
  unfold xorL; exact List.zipWith_append h
theorem bitsL_cons (z : Int) (zs : List Int) : bitsL (z :: zs) = bit8 z ++ bitsL zs := rfl
theorem bitsL_append (xs ys : List Int) : bitsL (xs ++ ys) = bitsL xs ++ bitsL ys := by unfold bitsL; rw [List.flatMap_append]
theorem bitsL_xor : ∀ {xs ys : List Int}, xs.length = ys.length → allB xs → allB ys → bitsL (xorB xs ys) = xorL (bitsL xs) (bitsL ys)
  | [], [], _, _, _ => rfl
  | x :: xs, y :: ys, h, hx, hy => by
    show bitsL (bits .xor .u8 x y :: xorB xs ys) = _
    rw [bitsL_cons, bitsL_cons, bitsL_cons, xorL_append (by simp [bit8_len]), bit8_xor (hx x (by simp)) (hy y (by simp)), bitsL_xor (by simpa using h) (fun z hz => hx z (by simp [hz])) (fun z hz => hy z (by simp [hz]))]
theorem allB_xor {xs ys : List Int} (hx : allB xs) (hy : allB ys) : allB (xorB xs ys) := by
  intro z hz
  unfold xorB at hz
  rw [List.mem_iff_getElem] at hz
  obtain ⟨i, hi, rfl⟩ := hz
  rw [List.getElem_zipWith]
  exact xor_isB (hx _ (List.getElem_mem _)) (hy _ (List.getElem_mem _))
theorem c8_xor {xs ys : List Int} (h : xs.length = ys.length) (hx : allB xs) (hy : allB ys) : c8 (xorB xs ys) = c8 xs ^^^ c8 ys := by
  unfold c8
  rw [bitsL_xor h hx hy]
  have := crcV_xor 7#8 (bitsL xs) (bitsL ys) 0#8 0#8 (by rw [bitsL_len, bitsL_len, h])
  simpa using this
theorem c10_xor {xs ys : List Int} (h : xs.length = ys.length) (hx : allB xs) (hy : allB ys) : c10 (xorB xs ys) = c10 xs ^^^ c10 ys := by
  unfold c10
  rw [bitsL_xor h hx hy]
  have := crcV_xor 563#10 (bitsL xs) (bitsL ys) 0#10 0#10 (by rw [bitsL_len, bitsL_len, h])
  simpa using this
/-- a long register that begins with 0. -/
def k32 (zs : List Int) : BitVec 32 := crcV 79764919#32 0#32 (bitsL zs)
theorem c32_xor {xs ys : List Int} (h : xs.length = ys.length) (hx : allB xs) (hy : allB ys) : c32 (xorB xs ys) = c32 xs ^^^ k32 ys := by
  unfold c32 k32
  rw [bitsL_xor h hx hy]
  have := crcV_xor 79764919#32 (bitsL xs) (bitsL ys) (BitVec.allOnes 32) 0#32 (by rw [bitsL_len, bitsL_len, h])
  rw [BitVec.xor_zero] at this
  exact this
theorem k32_two {xs ys : List Int} (h : xs.length = ys.length) (hx : allB xs) (hy : allB ys) : k32 (xorB xs ys) = c32 xs ^^^ c32 ys := by
  unfold c32 k32
  rw [bitsL_xor h hx hy]
  have := crcV_xor 79764919#32 (bitsL xs) (bitsL ys) (BitVec.allOnes 32) (BitVec.allOnes 32) (by rw [bitsL_len, bitsL_len, h])
  rw [BitVec.xor_self] at this
  exact this
/-- the checks of three texts' exclusive or. -/
def join3 (xs ys zs : List Int) : List Int := xorB xs (xorB ys zs)
theorem e8_nat (zs : List Int) : e8 zs = (((c8 zs ^^^ 85#8).toNat : Nat) : Int) := by unfold e8; rfl
theorem t10_nat (zs : List Int) : t10 zs = (((c10 zs).toNat : Nat) : Int) := by unfold t10; rfl
theorem l32_nat (zs : List Int) : l32 zs = (((~~~ c32 zs).toNat : Nat) : Int) := by unfold l32; rfl
theorem u16_xor_nat (a b : Nat) (ha : a < 65536) (hb : b < 65536) : bits .xor .u16 (a : Int) (b : Int) = ((a ^^^ b : Nat) : Int) := by
  have hor : a ^^^ b < 2 ^ 16 := Nat.xor_lt_two_pow (by omega) (by omega)
  have h1 : (BitVec.ofInt 16 (a : Int)).toNat = a := by simp; omega
  have h2 : (BitVec.ofInt 16 (b : Int)).toNat = b := by simp; omega
  show IntKind.u16.wrap ((BitVec.ofInt 16 (a : Int) ^^^ BitVec.ofInt 16 (b : Int)).toNat : Int) = _
  rw [BitVec.toNat_xor, h1, h2]
  simp [IntKind.bits, IntKind.wrap, IntKind.signed]
  omega
theorem join8 {xs ys zs : List Int} (h1 : ys.length = xs.length) (h2 : zs.length = xs.length) (hx : allB xs) (hy : allB ys) (hz : allB zs) :
    bits .xor .u8 (bits .xor .u8 (e8 xs) (e8 ys)) (e8 zs) = e8 (join3 xs ys zs) := by
  have b (v : BitVec 8) : v.toNat < 256 := v.isLt
  rw [e8_nat, e8_nat, e8_nat, e8_nat, u8_xor_nat _ _ (b _) (b _), ← BitVec.toNat_xor, u8_xor_nat _ _ (b _) (b _), ← BitVec.toNat_xor]
  unfold join3
  rw [c8_xor (by rw [xorB_len (by omega)]; omega) hx (allB_xor hy hz), c8_xor (by omega) hy hz]
  congr 2
  generalize c8 xs = u
  generalize c8 ys = v
  generalize c8 zs = t
  rw [show u ^^^ 85#8 ^^^ (v ^^^ 85#8) ^^^ (t ^^^ 85#8) = u ^^^ (v ^^^ t) ^^^ 85#8 by
    ext i hi
    simp only [BitVec.getElem_xor]
    cases u[i] <;> cases v[i] <;> cases t[i] <;> cases (85#8)[i] <;> rfl]
theorem join10 {xs ys zs : List Int} (h1 : ys.length = xs.length) (h2 : zs.length = xs.length) (hx : allB xs) (hy : allB ys) (hz : allB zs) :
    bits .xor .u16 (bits .xor .u16 (t10 xs) (t10 ys)) (t10 zs) = t10 (join3 xs ys zs) := by
  have b (v : BitVec 10) : v.toNat < 65536 := Nat.lt_trans v.isLt (by decide)
  rw [t10_nat, t10_nat, t10_nat, t10_nat, u16_xor_nat _ _ (b _) (b _), ← BitVec.toNat_xor, u16_xor_nat _ _ (b _) (b _), ← BitVec.toNat_xor]
  unfold join3
  rw [c10_xor (by rw [xorB_len (by omega)]; omega) hx (allB_xor hy hz), c10_xor (by omega) hy hz, BitVec.xor_assoc]
theorem join32 {xs ys zs : List Int} (h1 : ys.length = xs.length) (h2 : zs.length = xs.length) (hx : allB xs) (hy : allB ys) (hz : allB zs) :
    bits .xor .u32 (bits .xor .u32 (l32 xs) (l32 ys)) (l32 zs) = l32 (join3 xs ys zs) := by
  have b (v : BitVec 32) : v.toNat < 4294967296 := v.isLt
  rw [l32_nat, l32_nat, l32_nat, l32_nat, u32_xor_nat _ _ (b _) (b _), ← BitVec.toNat_xor, u32_xor_nat _ _ (b _) (b _), ← BitVec.toNat_xor]
  unfold join3
  rw [c32_xor (by rw [xorB_len (by omega)]; omega) hx (allB_xor hy hz), k32_two (by omega) hy hz]
  congr 2
  generalize c32 xs = u
  generalize c32 ys = v
  generalize c32 zs = t
  ext i hi
  simp only [BitVec.getElem_xor, BitVec.getElem_not]
  cases u[i] <;> cases v[i] <;> cases t[i] <;> rfl
end Go.Proofs.YtaoagbnhomjkpaaGreat

/- The plain law of the checks, over bytes: what stands ahead of others, and behind them. -/
namespace Go.Proofs.YtaoagbnhomjkpaaGreat
set_option linter.unusedVariables false
set_option linter.unusedSimpArgs false
open Go.RowKit Crc
theorem bit8_zero : bit8 0 = List.replicate 8 false := by decide
theorem bitsL_zeros (n : Nat) : bitsL (List.replicate n 0) = List.replicate (8 * n) false := by
  induction n with
  | zero => rfl
  | succ n ih => rw [List.replicate_succ, bitsL_cons, ih, bit8_zero, List.replicate_append_replicate]; congr 1; omega
theorem c8_zeros (n : Nat) (zs : List Int) : c8 (List.replicate n 0 ++ zs) = c8 zs := by
  unfold c8; rw [bitsL_append, bitsL_zeros, crcV_append, crcV_zeros]
theorem c10_zeros (n : Nat) (zs : List Int) : c10 (List.replicate n 0 ++ zs) = c10 zs := by
  unfold c10; rw [bitsL_append, bitsL_zeros, crcV_append, crcV_zeros]
theorem e8_zeros (n : Nat) (zs : List Int) : e8 (List.replicate n 0 ++ zs) = e8 zs := by rw [e8_nat, e8_nat, c8_zeros]
theorem t10_zeros (n : Nat) (zs : List Int) : t10 (List.replicate n 0 ++ zs) = t10 zs := by rw [t10_nat, t10_nat, c10_zeros]
theorem e8_none : e8 [] = 85 := by kernel_rfl
theorem t10_none : t10 [] = 0 := by kernel_rfl
theorem e8_zero (n : Nat) : e8 (List.replicate n 0) = 85 := by have := e8_zeros n []; rw [List.append_nil] at this; rw [this, e8_none]
theorem t10_zero (n : Nat) : t10 (List.replicate n 0) = 0 := by have := t10_zeros n []; rw [List.append_nil] at this; rw [this, t10_none]
/-- a register's bits, as0 a byte. -/
theorem bit8_reg (v : BitVec 8) : bit8 (v.toNat : Int) = hi v 8 := by
  unfold bit8 hi
  refine List.map_congr_left fun j hj => ?_
  simp only [List.mem_range] at hj
  rw [bitAt_nat, BitVec.getMsbD_eq_getLsbD]
  simp [hj, BitVec.getLsbD]
theorem c8_own (zs : List Int) : c8 (zs ++ [((c8 zs).toNat : Int)]) = 0#8 := by
  unfold c8
  rw [bitsL_append, crcV_append]
  show crcV 7#8 (crcV 7#8 0#8 (bitsL zs)) (bit8 _ ++ []) = 0#8
  rw [List.append_nil, bit8_reg]
  exact crcV_own _ _
theorem e8_x (zs : List Int) : bits .xor .u8 (e8 zs) 85 = ((c8 zs).toNat : Int) := by
  have b (v : BitVec 8) : v.toNat < 256 := v.isLt
  rw [e8_nat]
  have := u8_xor_nat (c8 zs ^^^ 85#8).toNat 85 (b _) (by decide)
  have e : ((85 : Nat) : Int) = 85 := rfl
  rw [e] at this
  have h2 : (c8 zs ^^^ 85#8).toNat ^^^ 85 = (c8 zs).toNat := by
    rw [BitVec.toNat_xor]
    show (c8 zs).toNat ^^^ 85 ^^^ 85 = _
    rw [Nat.xor_assoc, Nat.xor_self, Nat.xor_zero]
  rw [this, h2]
theorem e8_own (zs : List Int) : e8 (zs ++ [bits .xor .u8 (e8 zs) 85]) = 85 := by
  rw [e8_x, e8_nat, c8_own]; rfl
theorem bitAt_part (n i j : Nat) (hj : j < 8) : bitAt ((n : Int) / 2 ^ i % 256) j = n.testBit (i + (7 - j)) := by
  have e : (n : Int) / 2 ^ i % 256 = ((n / 2 ^ i % 2 ^ 8 : Nat) : Int) := by rw [int_div_pow]; omega
  rw [e, bitAt_nat, Nat.testBit_mod_two_pow, Nat.testBit_div_two_pow]
  rw [decide_eq_true (by omega), Bool.true_and, Nat.add_comm]
/-- a number's four bytes, the highest first. -/
def four (c : Int) : List Int := [c / 16777216 % 256, c / 65536 % 256, c / 256 % 256, c % 256]
theorem bits_four (v : BitVec 32) : bitsL (four (v.toNat : Int)) = hi v 32 := by
  have h0 := fun j hj => bitAt_part v.toNat 24 j hj
  have h1 := fun j hj => bitAt_part v.toNat 16 j hj
  have h2 := fun j hj => bitAt_part v.toNat 8 j hj
  have h3 := fun j hj => bitAt_part v.toNat 0 j hj
  have g (i j : Nat) (h : i + (7 - j) < 32) : v.toNat.testBit (i + (7 - j)) = v.getMsbD (31 - (i + (7 - j))) := by
    rw [BitVec.getMsbD_eq_getLsbD]
    have : 32 - 1 - (31 - (i + (7 - j))) = i + (7 - j) := by omega
    rw [this]
    simp [BitVec.getLsbD]
    omega
  have k0 : bit8 ((v.toNat : Int) / 16777216 % 256) = (List.range 8).map fun j => v.getMsbD j := List.map_congr_left fun j hj => by
    simp only [List.mem_range] at hj
    have := h0 j hj
    rw [show ((2 : Int) ^ 24) = 16777216 from rfl] at this
    rw [this, g 24 j (by omega)]; congr 1; omega
  have k1 : bit8 ((v.toNat : Int) / 65536 % 256) = (List.range 8).map fun j => v.getMsbD (8 + j) := List.map_congr_left fun j hj => by
    simp only [List.mem_range] at hj
    have := h1 j hj
    rw [show ((2 : Int) ^ 16) = 65536 from rfl] at this
    rw [this, g 16 j (by omega)]; congr 1; omega
  have k2 : bit8 ((v.toNat : Int) / 256 % 256) = (List.range 8).map fun j => v.getMsbD (16 + j) := List.map_congr_left fun j hj => by
    simp only [List.mem_range] at hj
    have := h2 j hj
    rw [show ((2 : Int) ^ 8) = 256 from rfl] at this
    rw [this, g 8 j (by omega)]; congr 1; omega
  have k3 : bit8 ((v.toNat : Int) % 256) = (List.range 8).map fun j => v.getMsbD (24 + j) := List.map_congr_left fun j hj => by
    simp only [List.mem_range] at hj
    have := h3 j hj
    rw [show ((2 : Int) ^ 0) = 1 from rfl, Int.ediv_one] at this
    rw [this, g 0 j (by omega)]; congr 1; omega
  unfold four
  rw [bitsL_cons, bitsL_cons, bitsL_cons, bitsL_cons, k0, k1, k2, k3]
  unfold hi
  rfl
theorem l32_own (zs : List Int) : l32 (zs ++ four (l32 zs)) = 955982468 := by
  have h1 : c32 (zs ++ four (l32 zs)) = crcV 79764919#32 0#32 (xorL (hi (c32 zs) 32) (hi (~~~ c32 zs) 32)) := by
    unfold c32
    rw [bitsL_append, crcV_append]
    show crcV _ (c32 zs) (bitsL (four (l32 zs))) = _
    rw [l32_nat, bits_four, crcV_as _ _ _ (hi_len _ _)]
    rfl
  have h2 : xorL (hi (c32 zs) 32) (hi (~~~ c32 zs) 32) = List.replicate 32 true := by
    rw [List.eq_replicate_iff]
    constructor
    · rw [xorL_len _ _ (by rw [hi_len, hi_len]), hi_len]
    · intro b hb
      unfold xorL hi at hb
      rw [List.zipWith_map, List.zipWith_self, List.mem_map] at hb
      obtain ⟨j, hj, rfl⟩ := hb
      simp only [List.mem_range] at hj
      rw [BitVec.getMsbD_not]
      simp [hj]
  rw [l32_nat, h1, h2]
  have e : (~~~ crcV 79764919#32 0#32 (List.replicate 32 true)).toNat = 955982468 := by kernel_rfl
  rw [e]; rfl
end Go.Proofs.YtaoagbnhomjkpaaGreat

/- The plain law of the checks: a bit that is turned over in five bytes tells itself. -/
namespace Go.Proofs.YtaoagbnhomjkpaaGreat
set_option linter.unusedVariables false
set_option linter.unusedSimpArgs false
open Go.RowKit Crc
set_option maxRecDepth 100000
/-- a byte as a bit vector. -/
def bv (z : Int) : BitVec 8 := BitVec.ofNat 8 z.toNat
theorem bv_nat {z : Int} (h : isB z) : (((bv z).toNat : Nat) : Int) = z := by
  obtain ⟨h0, h1⟩ := h
  unfold bv
  simp
  omega
theorem xor_bv {a b : Int} (ha : isB a) (hb : isB b) : bits .xor .u8 a b = (((bv a ^^^ bv b).toNat : Nat) : Int) := by
  obtain ⟨m, rfl⟩ := Int.eq_ofNat_of_zero_le ha.1
  obtain ⟨n, rfl⟩ := Int.eq_ofNat_of_zero_le hb.1
  have h1 := ha.2
  have h2 := hb.2
  rw [u8_xor_nat m n (by omega) (by omega), BitVec.toNat_xor]
  unfold bv
  simp
  congr 2 <;> omega
theorem bv_xor {a b : Int} (ha : isB a) (hb : isB b) : bv (bits .xor .u8 a b) = bv a ^^^ bv b := by
  rw [xor_bv ha hb]
  show BitVec.ofNat 8 (((bv a ^^^ bv b).toNat : Nat) : Int).toNat = _
  rw [Int.toNat_natCast, BitVec.ofNat_toNat, BitVec.setWidth_eq]
theorem bv_inj {a b : Int} (ha : isB a) (hb : isB b) (h : bv a = bv b) : a = b := by rw [← bv_nat ha, ← bv_nat hb, h]
/-- how five bytes' check differs, as a bit vector. -/
def linV (zs : List Int) : BitVec 8 := bv (zs[4]?.getD 0) ^^^ c8 (zs.take 4)
theorem synd_five {zs : List Int} (h : zs.length = 5) (hb : allB zs) : synd zs = (((linV zs ^^^ 85#8).toNat : Nat) : Int) := by
  have hd : zs.dropLast = zs.take 4 := by rw [List.dropLast_eq_take, h]
  have hz : isB (zs[4]?.getD 0) := by rw [List.getElem?_eq_getElem (by omega)]; exact hb _ (List.getElem_mem _)
  unfold synd
  rw [if_neg (fun e => by rw [e] at h; simp at h), h, hd, xor_bv hz (e8_bd _)]
  unfold linV
  have e : bv (e8 (zs.take 4)) = c8 (zs.take 4) ^^^ 85#8 := by
    rw [e8_nat]; unfold bv; simp
  show ((bv (zs[4]?.getD 0) ^^^ bv (e8 (zs.take 4))).toNat : Int) = _
  rw [e, BitVec.xor_assoc]
theorem linV_xor {xs ys : List Int} (h1 : xs.length = 5) (h2 : ys.length = 5) (hx : allB xs) (hy : allB ys) : linV (xorB xs ys) = linV xs ^^^ linV ys := by
  have e1 : (xorB xs ys)[4]?.getD 0 = bits .xor .u8 (xs[4]?.getD 0) (ys[4]?.getD 0) := by
    unfold xorB
    rw [List.getElem?_zipWith, List.getElem?_eq_getElem (by omega : 4 < xs.length), List.getElem?_eq_getElem (by omega : 4 < ys.length)]
    rfl
  have e2 : (xorB xs ys).take 4 = xorB (xs.take 4) (ys.take 4) := by unfold xorB; rw [List.take_zipWith]
  have b1 : isB (xs[4]?.getD 0) := by rw [List.getElem?_eq_getElem (by omega)]; exact hx _ (List.getElem_mem _)
  have b2 : isB (ys[4]?.getD 0) := by rw [List.getElem?_eq_getElem (by omega)]; exact hy _ (List.getElem_mem _)
  unfold linV
  rw [e1, e2, bv_xor b1 b2, c8_xor (by simp; omega) (fun z hz => hx z (List.mem_of_mem_take hz)) (fun z hz => hy z (List.mem_of_mem_take hz))]
  generalize bv (xs[4]?.getD 0) = p
  generalize bv (ys[4]?.getD 0) = q
  generalize c8 (xs.take 4) = u
  generalize c8 (ys.take 4) = v
  ext i hi
  simp only [BitVec.getElem_xor]
  cases p[i] <;> cases q[i] <;> cases u[i] <;> cases v[i] <;> rfl
/-- one bit alone, of so many bytes. -/
def unitZ (n k : Nat) : List Int := (List.replicate n 0).set (k / 8) (128 / 2 ^ (k % 8))
theorem pow_isB (m : Nat) : isB (128 / 2 ^ m : Int) := by
  have h2 : 128 / 2 ^ m ≤ 128 := Nat.div_le_self _ _
  have e : (128 / 2 ^ m : Int) = ((128 / 2 ^ m : Nat) : Int) := by push_cast; rfl
  rw [e]; unfold isB; generalize 128 / 2 ^ m = q at *; omega
theorem unitZ_len (n k : Nat) : (unitZ n k).length = n := by simp [unitZ]
theorem unitZ_B (n k : Nat) : allB (unitZ n k) := by
  intro z hz
  unfold unitZ at hz
  rcases List.mem_or_eq_of_mem_set hz with h | h
  · rw [List.eq_of_mem_replicate h]; unfold isB; omega
  · rw [h]; exact pow_isB _
theorem xor_zero8 {a : Int} (ha : isB a) : bits .xor .u8 a 0 = a := by
  rw [xor_bv ha (by unfold isB; omega)]
  show (((bv a ^^^ 0#8).toNat : Nat) : Int) = a
  rw [BitVec.xor_zero, bv_nat ha]
theorem flip_unit {zs : List Int} (hb : allB zs) (k : Nat) : flipZ zs k = xorB zs (unitZ zs.length k) := by
  apply List.ext_getElem?
  intro i
  unfold flipZ xorB unitZ
  rw [List.getElem?_zipWith, List.getElem?_set, List.getElem?_set]
  by_cases h : k / 8 = i
  · subst h
    by_cases hl : k / 8 < zs.length
    · simp [hl]
    · simp [hl]
  · rw [if_neg h, if_neg h]
    by_cases hl : i < zs.length
    · rw [List.getElem?_eq_getElem hl, List.getElem?_replicate, if_pos hl]
      show some _ = some _
      rw [xor_zero8 (hb _ (List.getElem_mem _))]
    · rw [List.getElem?_eq_none (by omega)]
theorem flip_len (zs : List Int) (k : Nat) : (flipZ zs k).length = zs.length := by simp [flipZ]
theorem flip_B {zs : List Int} (hb : allB zs) (k : Nat) : allB (flipZ zs k) := by
  rw [flip_unit hb]; exact allB_xor hb (unitZ_B _ _)
theorem synd_flip {zs : List Int} (h : zs.length = 5) (hb : allB zs) (k : Nat) : synd (flipZ zs k) = (((linV zs ^^^ 85#8 ^^^ linV (unitZ 5 k)).toNat : Nat) : Int) := by
  rw [synd_five (by rw [flip_len, h]) (flip_B hb k), flip_unit hb, h, linV_xor h (unitZ_len _ _) hb (unitZ_B _ _)]
  congr 2
  rw [BitVec.xor_assoc, BitVec.xor_assoc, BitVec.xor_comm (linV (unitZ 5 k))]
theorem lin_right : linV [0, 0, 0, 0, 85] ^^^ 85#8 = 0#8 := by decide
theorem tabZ_lin (k : Nat) : tabZ k = (((linV (unitZ 5 k)).toNat : Nat) : Int) := by
  unfold tabZ
  rw [synd_flip rfl (by intro z hz; simp at hz; unfold isB; omega) k, lin_right, BitVec.zero_xor]
def tabL : List Int := [49, 155, 206, 103, 176, 88, 44, 22, 11, 134, 67, 162, 81, 171, 214, 107, 182, 91, 174, 87, 168, 84, 42, 21, 137, 199, 224, 112, 56, 28, 14, 7, 128, 64, 32, 16, 8, 4, 2, 1]
theorem tab_list : (List.range 40).map tabZ = tabL := by kernel_rfl
theorem tab_at {k : Nat} (h : k < 40) : tabL[k]? = some (tabZ k) := by
  rw [← tab_list, List.getElem?_map, List.getElem?_range h]; rfl
theorem tab_inj {i k : Nat} (hi : i < 40) (hk : k < 40) (h : tabZ i = tabZ k) : i = k := by
  have hd : tabL.Nodup := by decide
  have e : tabL[i]? = tabL[k]? := by rw [tab_at hi, tab_at hk, h]
  exact (List.getElem?_inj (by show i < 40; exact hi) hd).1 e
theorem tab_pos {k : Nat} (h : k < 40) : tabZ k ≠ 0 := by
  intro e
  have h1 := tab_at h
  rw [e] at h1
  have h2 : (0 : Int) ∈ tabL := List.mem_of_getElem? h1
  exact absurd h2 (by decide)
theorem tab_bd {k : Nat} (h : k < 40) : 0 ≤ tabZ k ∧ tabZ k < 256 := by
  rw [tabZ_lin]; have := (linV (unitZ 5 k)).isLt; omega
theorem findZ_spec (s : Int) : ∀ (n k i : Nat), k ≤ i → i < k + n → tabZ i = s → (∀ j, k ≤ j → j < i → tabZ j ≠ s) → findZ s n k = some i
  | 0, k, i, h1, h2, _, _ => by omega
  | n + 1, k, i, h1, h2, h3, h4 => by
    unfold findZ
    by_cases hk : k = i
    · subst hk; rw [if_pos h3]
    · rw [if_neg (h4 k (Nat.le_refl _) (by omega))]
      exact findZ_spec s n (k + 1) i (by omega) (by omega) h3 (fun j a b => h4 j (by omega) b)
theorem findZ_some {s : Int} : ∀ {n k i : Nat}, findZ s n k = some i → k ≤ i ∧ i < k + n ∧ tabZ i = s
  | 0, k, i, h => by cases h
  | n + 1, k, i, h => by
    unfold findZ at h
    split at h
    · injection h with h; subst h; exact ⟨Nat.le_refl _, by omega, by assumption⟩
    · have := findZ_some h; omega
theorem bitOf_tab {k : Nat} (h : k < 40) : bitOf (tabZ k) = some k :=
  findZ_spec _ 40 0 k (by omega) (by omega) rfl (fun j _ hj e => by have := tab_inj (by omega) h e; omega)
theorem bitV_tab {k : Nat} (h : k < 40) : bitV (tabZ k) = .tuple #[.int .i64 k, .bool true] := by unfold bitV; rw [bitOf_tab h]
theorem bitOf_some {s : Int} {k : Nat} (h : bitOf s = some k) : k < 40 ∧ tabZ k = s := by
  have := findZ_some h; omega
/-- four bytes with their check behind them. -/
theorem right_lin {zs : List Int} (h : zs.length = 4) (hb : allB zs) : linV (zs ++ [e8 zs]) ^^^ 85#8 = 0#8 := by
  unfold linV
  have e1 : (zs ++ [e8 zs])[4]?.getD 0 = e8 zs := by rw [List.getElem?_append_right (by omega), h]; rfl
  have e2 : (zs ++ [e8 zs]).take 4 = zs := by rw [← h, List.take_left]
  have e : bv (e8 zs) = c8 zs ^^^ 85#8 := by rw [e8_nat]; unfold bv; simp
  rw [e1, e2, e]
  generalize c8 zs = u
  ext i hi
  simp only [BitVec.getElem_xor]
  cases u[i] <;> cases (85#8)[i] <;> simp
theorem right_B {zs : List Int} (hb : allB zs) : allB (zs ++ [e8 zs]) := by
  intro z hz
  rcases List.mem_append.1 hz with h | h
  · exact hb z h
  · simp at h; rw [h]; exact e8_bd zs
theorem synd_right {zs : List Int} (h : zs.length = 4) (hb : allB zs) : synd (zs ++ [e8 zs]) = 0 := by
  rw [synd_five (by simp; omega) (right_B hb), right_lin h hb]; rfl
theorem synd_one {zs : List Int} (h : zs.length = 4) (hb : allB zs) (i : Nat) : synd (flipZ (zs ++ [e8 zs]) i) = tabZ i := by
  rw [synd_flip (by simp; omega) (right_B hb), right_lin h hb, BitVec.zero_xor, tabZ_lin]
theorem lin_flip {zs : List Int} (h : zs.length = 5) (hb : allB zs) (k : Nat) : linV (flipZ zs k) = linV zs ^^^ linV (unitZ 5 k) := by
  rw [flip_unit hb, h, linV_xor h (unitZ_len _ _) hb (unitZ_B _ _)]
theorem synd_two {zs : List Int} (h : zs.length = 4) (hb : allB zs) (i k : Nat) : synd (flipZ (flipZ (zs ++ [e8 zs]) i) k) = (((linV (unitZ 5 i) ^^^ linV (unitZ 5 k)).toNat : Nat) : Int) := by
  rw [synd_flip (by rw [flip_len]; simp; omega) (flip_B (right_B hb) i), lin_flip (by simp; omega) (right_B hb)]
  congr 2
  have := right_lin h hb
  generalize linV (zs ++ [e8 zs]) = u at *
  generalize linV (unitZ 5 i) = p
  generalize linV (unitZ 5 k) = q
  rw [BitVec.xor_assoc u p, BitVec.xor_comm p, ← BitVec.xor_assoc, this, BitVec.zero_xor]
theorem synd_two_zero {zs : List Int} (h : zs.length = 4) (hb : allB zs) {i k : Nat} (hi : i < 40) (hk : k < 40) : synd (flipZ (flipZ (zs ++ [e8 zs]) i) k) = 0 ↔ i = k := by
  rw [synd_two h hb]
  constructor
  · intro e
    have e0 : linV (unitZ 5 i) ^^^ linV (unitZ 5 k) = 0#8 := BitVec.eq_of_toNat_eq (by simpa using e)
    have e1 : linV (unitZ 5 i) = linV (unitZ 5 k) := BitVec.xor_eq_zero_iff.1 e0
    exact tab_inj hi hk (by rw [tabZ_lin, tabZ_lin, e1])
  · rintro rfl
    rw [BitVec.xor_self]; rfl
end Go.Proofs.YtaoagbnhomjkpaaGreat

/- The layer 'hec': a receiver in memory; what it does with a header. -/
namespace Go.Proofs.YtaoagbnhomjkpaaGreat
set_option linter.unusedVariables false
set_option linter.unusedSimpArgs false
open Go.RowKit
set_option maxRecDepth 100000
theorem results_ct {P : Program} {fn : Func} {p u : Tmp} {ty : TypeId} (h : fn.results = #[.cell p ty, .tmp u]) (tmps : Array Value) (w : World) {a : Addr} {v : Value} (hp : tmps.getD p undef = .pointer (some a)) (hl : (loadVar ty a).run P w = .ok v w) :
    (results fn tmps).run P w = .ok (.tuple #[v, tmps.getD u undef]) w := by
  have hp' : tmps[p]?.getD undef = .pointer (some a) := by simpa using hp
  simp [results, h, hp', asAddr, hl]
theorem results_c1 {P : Program} {fn : Func} {p : Tmp} {ty : TypeId} (h : fn.results = #[.cell p ty]) (tmps : Array Value) (w : World) {a : Addr} {v : Value} (hp : tmps.getD p undef = .pointer (some a)) (hl : (loadVar ty a).run P w = .ok v w) :
    (results fn tmps).run P w = .ok v w := by
  have hp' : tmps[p]?.getD undef = .pointer (some a) := by simpa using hp
  simp [results, h, hp', asAddr, hl]
theorem load_four {w : World} {g : Nat} {a b c d : Int} (h0 : w.cell? ⟨g, 0, none⟩ = some (.int .u8 a)) (h1 : w.cell? ⟨g, 1, none⟩ = some (.int .u8 b)) (h2 : w.cell? ⟨g, 2, none⟩ = some (.int .u8 c)) (h3 : w.cell? ⟨g, 3, none⟩ = some (.int .u8 d)) :
    (loadVar 127 ⟨g, 0, none⟩).run Tryz.prog w = .ok (.agg #[.int .u8 a, .int .u8 b, .int .u8 c, .int .u8 d]) w := by
  have hl : (loadCells ⟨g, 0, none⟩ 4).run Tryz.prog w = .ok #[.int .u8 a, .int .u8 b, .int .u8 c, .int .u8 d] w :=
    run_loadCells_list (P := Tryz.prog) w ⟨g, 0, none⟩ [.int .u8 a, .int .u8 b, .int .u8 c, .int .u8 d] (fun j v hv => by
      have hadd : (⟨g, 0, none⟩ : Addr).add j = ⟨g, j, none⟩ := by unfold Addr.add; split <;> simp_all
      rw [hadd]
      match j, hv with
      | 0, hv => simp at hv; rw [h0, hv]
      | 1, hv => simp at hv; rw [h1, hv]
      | 2, hv => simp at hv; rw [h2, hv]
      | 3, hv => simp at hv; rw [h3, hv]
      | j + 4, hv => simp at hv)
  simp [loadVar, hl]
theorem load_five {w : World} {g : Nat} {a b c d e : Int} (h0 : w.cell? ⟨g, 0, none⟩ = some (.int .u8 a)) (h1 : w.cell? ⟨g, 1, none⟩ = some (.int .u8 b)) (h2 : w.cell? ⟨g, 2, none⟩ = some (.int .u8 c)) (h3 : w.cell? ⟨g, 3, none⟩ = some (.int .u8 d)) (h4 : w.cell? ⟨g, 4, none⟩ = some (.int .u8 e)) :
    (loadVar 130 ⟨g, 0, none⟩).run Tryz.prog w = .ok (.agg #[.int .u8 a, .int .u8 b, .int .u8 c, .int .u8 d, .int .u8 e]) w := by
  have hl : (loadCells ⟨g, 0, none⟩ 5).run Tryz.prog w = .ok #[.int .u8 a, .int .u8 b, .int .u8 c, .int .u8 d, .int .u8 e] w :=
    run_loadCells_list (P := Tryz.prog) w ⟨g, 0, none⟩ [.int .u8 a, .int .u8 b, .int .u8 c, .int .u8 d, .int .u8 e] (fun j v hv => by
      have hadd : (⟨g, 0, none⟩ : Addr).add j = ⟨g, j, none⟩ := by unfold Addr.add; split <;> simp_all
      rw [hadd]
      match j, hv with
      | 0, hv => simp at hv; rw [h0, hv]
      | 1, hv => simp at hv; rw [h1, hv]
      | 2, hv => simp at hv; rw [h2, hv]
      | 3, hv => simp at hv; rw [h3, hv]
      | 4, hv => simp at hv; rw [h4, hv]
      | j + 5, hv => simp at hv)
  simp [loadVar, hl]
theorem frozen_top {w : World} {b o : Nat} {cs : Array Value} {E : TypeId} (hb : b = w.heap.size) : (w.alloc (.cells cs E)).frozen? ⟨b, o, none⟩ = false := by
  subst hb; exact World.frozen?_alloc_new _ _ _ _
/-- a receiver, at a block's beginning (alone, or a link's). -/
def RecAt (w : World) (b : Nat) (r d : Int) (c : Bool) : Prop := ∃ (rest : List Value) (T : TypeId), w.heap[b]? = some (.cells (.int .i64 r :: .int .i64 d :: .bool c :: rest).toArray T)
variable {w w' : World} {b : Nat} {r d : Int} {c : Bool}
theorem RecAt.lt (h : RecAt w b r d c) : b < w.heap.size := by
  obtain ⟨rest, T, h⟩ := h
  exact (Array.getElem?_eq_some_iff.1 h).1
theorem RecAt.cells (h : RecAt w b r d c) : w.cell? ⟨b, 0, none⟩ = some (.int .i64 r) ∧ w.cell? ⟨b, 1, none⟩ = some (.int .i64 d) ∧ w.cell? ⟨b, 2, none⟩ = some (.bool c) ∧ ∀ o, w.frozen? ⟨b, o, none⟩ = false := by
  obtain ⟨rest, T, h⟩ := h
  refine ⟨?_, ?_, ?_, fun o => frozen_of_row w b o _ _ h⟩ <;> rw [cell_of_row w b _ _ _ _ h] <;> simp
theorem RecAt.other {k : Nat} (h : RecAt w b r d c) (hc : Chg k w w') (hn : b ≠ k) : RecAt w' b r d c := let ⟨rest, T, g⟩ := h; ⟨rest, T, (hc.block b h.lt hn).trans g⟩
theorem RecAt.below (h : RecAt w b r d c) (hb : Below w.heap.size w w') : RecAt w' b r d c := let ⟨rest, T, g⟩ := h; ⟨rest, T, (hb.block b h.lt).trans g⟩
theorem RecAt.alloc (h : RecAt w b r d c) (o : Obj) : RecAt (w.alloc o) b r d c := h.below ((Below.refl _ _).alloc (Nat.le_refl _) o)
theorem RecAt.drewN (h : RecAt w b r d c) (m : Nat) : RecAt (w.drewN m) b r d c := h
theorem RecAt.drew (h : RecAt w b r d c) : RecAt w.drew b r d c := h
theorem RecAt.set0 {r' : Int} (h : RecAt w b r d c) : RecAt (w.setCell ⟨b, 0, none⟩ (.int .i64 r')) b r' d c := let ⟨rest, T, g⟩ := h; ⟨rest, T, by rw [heap_setCell_same w b 0 _ _ _ g]; simp⟩
theorem RecAt.set1 {d' : Int} (h : RecAt w b r d c) : RecAt (w.setCell ⟨b, 1, none⟩ (.int .i64 d')) b r d' c := let ⟨rest, T, g⟩ := h; ⟨rest, T, by rw [heap_setCell_same w b 1 _ _ _ g]; simp⟩
theorem RecAt.set2 {c' : Bool} (h : RecAt w b r d c) : RecAt (w.setCell ⟨b, 2, none⟩ (.bool c')) b r d c' := let ⟨rest, T, g⟩ := h; ⟨rest, T, by rw [heap_setCell_same w b 2 _ _ _ g]; simp⟩
theorem RecAt.beside {k o : Nat} {v : Value} (h : RecAt w b r d c) (hn : b ≠ k) : RecAt (w.setCell ⟨k, o, none⟩ v) b r d c := let ⟨rest, T, g⟩ := h; ⟨rest, T, (Below.heap_setCell w ⟨k, o, none⟩ v b hn).trans g⟩
/-- is it repaired? -/
def fixes (c : Bool) (zs : List Int) : Bool := (synd zs != 0) && !c && (bitOf (synd zs)).isSome
def drops (c : Bool) (zs : List Int) : Bool := (synd zs != 0) && !(!c && (bitOf (synd zs)).isSome)
def takes (c : Bool) (zs : List Int) : List Int := if synd zs = 0 then zs.take 4 else if fixes c zs then (flipZ zs ((bitOf (synd zs)).getD 0)).take 4 else [0, 0, 0, 0]
def oneIf (b : Bool) : Int := if b then 1 else 0
def agg4 (zs : List Int) : Value := .agg (zs.map (Value.int .u8)).toArray
end Go.Proofs.YtaoagbnhomjkpaaGreat

/- Bytes that are appended to a slice of the call's own. -/
namespace Go.Proofs.YtaoagbnhomjkpaaGreat
set_option linter.unusedVariables false
set_option linter.unusedSimpArgs false
open Go.RowKit
theorem u8Info : (Tryz.prog.info? 5).map (fun i => (i.zero, i.size, i.bytes)) = some (some (.int .u8 0), 1, 1) := by kernel_rfl
/-- a slice of bytes of the call's own. -/
def OwnB (w : World) (base : Nat) (v : Value) (n : Nat) (zs : List Int) : Prop := w.ownsRow base 5 1 v n (zs.map (Value.int .u8)) ∧ ∀ k : Nat, 0 ≤ zs[k]?.getD 0 ∧ zs[k]?.getD 0 < 256
theorem OwnB.len {w : World} {base : Nat} {v : Value} {n : Nat} {zs : List Int} (h : OwnB w base v n zs) : zs.length = n := by
  have := h.1.1; simpa using this
theorem OwnB.alloc {w : World} {base : Nat} {v : Value} {n : Nat} {zs : List Int} (h : OwnB w base v n zs) (o : Obj) : OwnB (w.alloc o) base v n zs := ⟨h.1.alloc o, h.2⟩
theorem OwnB.below {w w' : World} {base : Nat} {v : Value} {n : Nat} {zs : List Int} (h : OwnB w base v n zs) (hb : Below w.heap.size w w') : OwnB w' base v n zs := ⟨own_below h.1 hb, h.2⟩
theorem bytes_append {xs ys : List Int} (hx : ∀ k : Nat, 0 ≤ xs[k]?.getD 0 ∧ xs[k]?.getD 0 < 256) (hy : ∀ k : Nat, 0 ≤ ys[k]?.getD 0 ∧ ys[k]?.getD 0 < 256) : ∀ k : Nat, 0 ≤ (xs ++ ys)[k]?.getD 0 ∧ (xs ++ ys)[k]?.getD 0 < 256 := by
  intro k
  by_cases h : k < xs.length
  · rw [List.getElem?_append_left h]; exact hx k
  · rw [List.getElem?_append_right (by omega)]; exact hy _
/-- what an owned row reads as. -/
theorem OwnB.at {w : World} {base : Nat} {v : Value} {n : Nat} {zs : List Int} (h : OwnB w base v n zs) (hn : n ≤ 140737488355328) :
    ∃ a cap, v = .slice a n cap ∧ n ≤ cap ∧ cap ≤ 9223372036854775807 ∧ BytesAt w a n zs ∧ (∀ b off, a = some ⟨b, off, none⟩ → base ≤ b ∧ off = 0 ∧ b < w.heap.size ∧ ∀ o, w.frozen? ⟨b, o, none⟩ = false) ∧ (a = none ∨ ∃ b, a = some ⟨b, 0, none⟩) := by
  have hl := h.len
  rcases h.1.2 with ⟨rfl, rfl⟩ | ⟨g, cap, cur, rfl, hbg, hg, hnc, hcm, hcs, htake⟩
  · have hz : zs = [] := List.eq_nil_of_length_eq_zero hl
    subst hz
    exact ⟨none, 0, rfl, by omega, by omega, BytesAt.nil w, ⟨fun b off e => (by cases e), Or.inl rfl⟩⟩
  · have hlt := (h.1.lt g rfl).2
    refine ⟨some ⟨g, 0, none⟩, cap, rfl, hnc, by unfold maxLen at hcm; omega, ⟨hl, hn, h.2, fun hp => ⟨g, 0, rfl, hlt, fun k hk => ?_⟩⟩, ⟨fun b off e => ?_, Or.inr ⟨g, rfl⟩⟩⟩
    · have := h.1.cellAt k (by omega)
      rw [Nat.zero_add, this, List.getElem?_map, List.getElem?_eq_getElem (by omega)]
      simp [hl, hk]
    · injection e with e; injection e with e1 e2; subst e1; subst e2
      exact ⟨hbg, rfl, hlt, fun o => h.1.frozenAt o⟩
theorem wpList_append_bytes {w : World} {ops : Array Oper} {rest : List Oper} {o : Oper} {a : Act} {Q : Exit → Act → World → Prop} (hgd : o.guard = none) (s x : Operand)
    (ho : o.op = .call { callee := .builtin .append, args := #[s, x], argTypes := #[36, 36] }) {base : Nat} {v : Value} {n : Nat} {xs : List Int} (hs : a.eval s = v) (hown : OwnB w base v n xs)
    {ad : Option Addr} {m c : Nat} {ys : List Int} (hx : a.eval x = .slice ad m c) (hy : BytesAt w ad m ys) (hnone : ad = none → c = 0) (hb : n + m ≤ 140737488355328) (hbase : base ≤ w.heap.size)
    (h : ∀ v' w', OwnB w' base v' (n + m) (xs ++ ys) → Below base w w' → wpList Tryz.prog ops Q rest (a.put o.dst v') w') : wpList Tryz.prog ops Q (o :: rest) a w := by
  obtain ⟨inf, hin, hi0, hi1, hi2⟩ := info_parts u8Info
  by_cases hm : m = 0
  · subst hm
    have hz : ys = [] := List.eq_nil_of_length_eq_zero hy.length
    subst hz
    cases ad with
    | none =>
      obtain rfl := hnone rfl
      refine wpList_append_own_none hgd s x 36 ho base 5 inf 1 Tryz.underlying36 hin v n (xs.map (Value.int .u8)) hs hown.1 hx ?_
      refine h v w (by simpa using hown) (Below.refl _ _)
    | some ad =>
      refine wpList_append_own _ hgd s x 36 ho base 5 inf _ 1 1 Tryz.underlying36 hin hi0 hi1 hi2 rfl (by decide) v n (xs.map (Value.int .u8)) hs hown.1 ad 0 c [] hx (by simp) (by simp) (by simp) (by unfold maxLen; omega) (by omega) hbase ?_
      intro v' w' h1 h2 _
      exact h v' w' ⟨by simpa using h1, by simpa using hown.2⟩ ((Below.refl base w).grown h2 hbase (fun k hk => (World.ownsRow.lt hown.1 k hk).1))
  · obtain ⟨b, off, rfl, hb1, hc⟩ := hy.cells (by omega)
    refine wpList_append_own _ hgd s x 36 ho base 5 inf _ 1 1 Tryz.underlying36 hin hi0 hi1 hi2 rfl (by decide) v n (xs.map (Value.int .u8)) hs hown.1 ⟨b, off, none⟩ m c (ys.map (Value.int .u8)) hx (by simp [hy.length]) ?_ ?_ (by unfold maxLen; omega) (by omega) hbase ?_
    · intro j u hj
      rw [List.getElem?_map] at hj
      by_cases hjm : j < ys.length
      · rw [List.getElem?_eq_getElem hjm] at hj
        have := hc j (by rw [← hy.length]; exact hjm)
        rw [List.getElem?_eq_getElem hjm] at this
        simp at hj this
        rw [← hj, Go.WideShapes.add_plain]
        exact this
      · rw [List.getElem?_eq_none (by omega)] at hj; simp at hj
    · intro u hu
      obtain ⟨z, _, rfl⟩ := List.mem_map.1 hu
      rfl
    · intro v' w' h1 h2 _
      refine h v' w' ⟨?_, bytes_append hown.2 hy.byte⟩ ((Below.refl base w).grown h2 hbase (fun k hk => (World.ownsRow.lt hown.1 k hk).1))
      rw [List.map_append]; exact h1
theorem wpList_append_b2 {w : World} {ops : Array Oper} {rest : List Oper} {o : Oper} {a : Act} {Q : Exit → Act → World → Prop} (hgd : o.guard = none) (s x : Operand)
    (ho : o.op = .call { callee := .builtin .append, args := #[s, x], argTypes := #[36, 36] }) {base : Nat} {v : Value} {n : Nat} {xs : List Int} (hown : OwnB w base v n xs) (hs : a.eval s = v)
    {ad : Option Addr} {m c : Nat} {ys : List Int} (hy : BytesAt w ad m ys) (hx : a.eval x = .slice ad m c) (hnone : ad = none → c = 0) (hb : n + m ≤ 140737488355328) (hbase : base ≤ w.heap.size)
    (h : ∀ v' w', OwnB w' base v' (n + m) (xs ++ ys) → Below base w w' → wpList Tryz.prog ops Q rest (a.put o.dst v') w') : wpList Tryz.prog ops Q (o :: rest) a w :=
  wpList_append_bytes hgd s x ho hs hown hx hy hnone hb hbase h
end Go.Proofs.YtaoagbnhomjkpaaGreat
