/- The plain law of a payload's check. -/
import Derived.Test.YtnjjejhniekdcaaSumsU
namespace Go.Proofs.Ytnjjejhniekdcaa
set_option linter.unusedVariables false
set_option linter.unusedSimpArgs false
open Go.RowKit Crc
set_option maxRecDepth 100000
/-- the check of a payload's bits but the last ten. -/
def regZ (zs : List Int) : BitVec 10 := crcV 563#10 0#10 ((bitsL zs).take 374)
def regN (zs : List Int) : Int := ((regZ zs).toNat : Int)
theorem regN_bd (zs : List Int) : 0 ≤ regN zs ∧ regN zs < 1024 := by have := (regZ zs).isLt; unfold regN; omega
/-- a payload with its check. -/
def sealZ (zs : List Int) : List Int := (zs.set 46 ((zs[46]?.getD 0) / 4 * 4 + regN zs / 256)).set 47 (regN zs % 256)
theorem sealZ_len (zs : List Int) : (sealZ zs).length = zs.length := by simp [sealZ]
theorem byte_B {zs : List Int} (hb : allB zs) (k : Nat) : isB (zs[k]?.getD 0) := by
  by_cases h : k < zs.length
  · rw [List.getElem?_eq_getElem h]; exact hb _ (List.getElem_mem h)
  · rw [List.getElem?_eq_none (by omega)]; unfold isB; simp
theorem sealZ_B {zs : List Int} (hb : allB zs) : allB (sealZ zs) := by
  intro z hz
  have hr := regN_bd zs
  have h46 := byte_B hb 46
  unfold isB at h46
  unfold sealZ at hz
  rcases List.mem_or_eq_of_mem_set hz with h | h
  · rcases List.mem_or_eq_of_mem_set h with h | h
    · exact hb z h
    · rw [h]; unfold isB; omega
  · rw [h]; unfold isB; omega
theorem sealZ_at {zs : List Int} (hl : zs.length = 48) (k : Nat) : (sealZ zs)[k]?.getD 0 = if k = 46 then (zs[46]?.getD 0) / 4 * 4 + regN zs / 256 else if k = 47 then regN zs % 256 else zs[k]?.getD 0 := by
  unfold sealZ
  rw [List.getElem?_set, List.getElem?_set]
  by_cases h1 : k = 46
  · subst h1
    rw [if_neg (by omega), if_pos rfl, if_pos (by omega), if_pos rfl]; rfl
  · by_cases h2 : k = 47
    · subst h2
      rw [if_pos rfl, if_pos (by simp; omega), if_neg (by omega), if_pos rfl]; rfl
    · rw [if_neg (by omega), if_neg (by omega), if_neg h1, if_neg h2]
theorem bitAt_high (z h : Int) (h0 : 0 ≤ h) (h1 : h < 4) (m : Nat) (hm : m < 6) : bitAt (z / 4 * 4 + h) m = bitAt z m := by
  unfold bitAt
  have hc : m = 0 ∨ m = 1 ∨ m = 2 ∨ m = 3 ∨ m = 4 ∨ m = 5 := by omega
  rcases hc with rfl | rfl | rfl | rfl | rfl | rfl <;> (rw [Bool.eq_iff_iff]; simp only [beq_iff_eq]; omega)
theorem bitAt_low (z h : Int) (h0 : 0 ≤ h) (h1 : h < 4) (m : Nat) (hm : 6 ≤ m) (hm2 : m < 8) : bitAt (z / 4 * 4 + h) m = bitAt h m := by
  unfold bitAt
  have hc : m = 6 ∨ m = 7 := by omega
  rcases hc with rfl | rfl <;> (rw [Bool.eq_iff_iff]; simp only [beq_iff_eq]; omega)
theorem bitAt_reg (v : BitVec 10) (m : Nat) (hm : 6 ≤ m) (hm2 : m < 8) : bitAt ((v.toNat : Int) / 256) m = v.getMsbD (m - 6) := by
  have e : (v.toNat : Int) / 256 = ((v.toNat / 256 : Nat) : Int) := by omega
  rw [e, bitAt_nat, show (256 : Nat) = 2 ^ 8 from rfl, Nat.testBit_div_two_pow, BitVec.getMsbD_eq_getLsbD, decide_eq_true (by omega), Bool.true_and]
  show v.toNat.testBit _ = v.toNat.testBit _
  congr 1; omega
theorem bitAt_reg2 (v : BitVec 10) (m : Nat) (hm2 : m < 8) : bitAt ((v.toNat : Int) % 256) m = v.getMsbD (m + 2) := by
  have e : (v.toNat : Int) % 256 = ((v.toNat % 2 ^ 8 : Nat) : Int) := by omega
  rw [e, bitAt_nat, Nat.testBit_mod_two_pow, decide_eq_true (by omega), Bool.true_and, BitVec.getMsbD_eq_getLsbD, decide_eq_true (by omega), Bool.true_and]
  show v.toNat.testBit _ = v.toNat.testBit _
  congr 1; omega
theorem bitF_seal {zs : List Int} (hl : zs.length = 48) (j : Nat) (hj : j < 384) : bitF (sealZ zs) j = if j < 374 then bitF zs j else (regZ zs).getMsbD (j - 374) := by
  have hr := regN_bd zs
  unfold bitF
  rw [sealZ_at hl]
  by_cases h1 : j / 8 = 46
  · rw [if_pos h1, h1]
    by_cases h2 : j < 374
    · rw [if_pos h2, bitAt_high _ _ (by omega) (by omega) _ (by omega)]
    · rw [if_neg h2, bitAt_low _ _ (by omega) (by omega) _ (by omega) (by omega)]
      unfold regN
      rw [bitAt_reg _ _ (by omega) (by omega)]
      congr 1; omega
  · rw [if_neg h1]
    by_cases h3 : j / 8 = 47
    · rw [if_pos h3, if_neg (by omega)]
      unfold regN
      rw [bitAt_reg2 _ _ (by omega)]
      congr 1; omega
    · rw [if_neg h3, if_pos (by omega)]
theorem bits_seal {zs : List Int} (hl : zs.length = 48) : bitsL (sealZ zs) = (bitsL zs).take 374 ++ hi (regZ zs) 10 := by
  apply List.ext_getElem?
  intro j
  by_cases hj : j < 384
  · rw [bitsL_at _ j (by rw [sealZ_len, hl]; omega), bitF_seal hl j hj]
    by_cases h : j < 374
    · rw [if_pos h, List.getElem?_append_left (by rw [List.length_take, bitsL_len, hl]; omega), List.getElem?_take_of_lt h, bitsL_at _ j (by omega)]
    · rw [if_neg h, List.getElem?_append_right (by rw [List.length_take, bitsL_len, hl]; omega), List.length_take, bitsL_len, hl]
      unfold hi
      rw [List.getElem?_map, List.getElem?_range (by omega)]
      simp
  · rw [List.getElem?_eq_none (by rw [bitsL_len, sealZ_len, hl]; omega), List.getElem?_eq_none (by rw [List.length_append, List.length_take, bitsL_len, hl, hi_len]; omega)]
theorem regZ_seal {zs : List Int} (hl : zs.length = 48) : regZ (sealZ zs) = regZ zs := by
  unfold regZ
  rw [bits_seal hl, List.take_append_of_le_length (by rw [List.length_take, bitsL_len, hl]; omega), List.take_take]
  rfl
theorem c10_seal {zs : List Int} (hl : zs.length = 48) : c10 (sealZ zs) = 0#10 := by
  unfold c10
  rw [bits_seal hl, crcV_append]
  exact crcV_own _ _
theorem bit8_inj {a b : Int} (ha : isB a) (hb : isB b) (h : bit8 a = bit8 b) : a = b := by
  have h1 : ∀ j, j < 8 → bitAt a j = bitAt b j := fun j hj => by
    have := congrArg (fun l => l[j]?) h
    simpa [bit8, hj] using this
  have k (j : Nat) (hj : j < 8) : a / 2 ^ (7 - j) % 2 = b / 2 ^ (7 - j) % 2 := by
    have := h1 j hj
    unfold bitAt at this
    rw [Bool.eq_iff_iff] at this
    simp only [beq_iff_eq] at this
    omega
  have k0 := k 0 (by omega)
  have k1 := k 1 (by omega)
  have k2 := k 2 (by omega)
  have k3 := k 3 (by omega)
  have k4 := k 4 (by omega)
  have k5 := k 5 (by omega)
  have k6 := k 6 (by omega)
  have k7 := k 7 (by omega)
  unfold isB at ha hb
  simp only [Nat.reduceSub, Int.reducePow] at k0 k1 k2 k3 k4 k5 k6 k7
  omega
theorem bitsL_inj : ∀ {xs ys : List Int}, xs.length = ys.length → allB xs → allB ys → bitsL xs = bitsL ys → xs = ys
  | [], [], _, _, _, _ => rfl
  | x :: xs, y :: ys, h, hx, hy, he => by
    rw [bitsL_cons, bitsL_cons] at he
    obtain ⟨h1, h2⟩ := List.append_inj he (by rw [bit8_len, bit8_len])
    rw [bit8_inj (hx x (by simp)) (hy y (by simp)) h1, bitsL_inj (by simpa using h) (fun z hz => hx z (by simp [hz])) (fun z hz => hy z (by simp [hz])) h2]
/-- is it sealed? -/
theorem sealed_iff {zs : List Int} (hl : zs.length = 48) (hb : allB zs) : sealZ zs = zs ↔ c10 zs = 0#10 := by
  constructor
  · intro h; rw [← h]; exact c10_seal hl
  · intro h
    refine bitsL_inj (by rw [sealZ_len]) (sealZ_B hb) hb ?_
    rw [bits_seal hl]
    have e : bitsL zs = (bitsL zs).take 374 ++ (bitsL zs).drop 374 := (List.take_append_drop _ _).symm
    have h2 := h
    unfold c10 at h2
    rw [e, crcV_append] at h2
    have hd : ((bitsL zs).drop 374).length = 10 := by rw [List.length_drop, bitsL_len, hl]
    have h3 := (crcV_short 563#10 (by decide) ((bitsL zs).drop 374) _ (by omega) h2).1
    rw [hd] at h3
    conv => rhs; rw [e, h3]
    rfl
theorem seal_seal {zs : List Int} (hl : zs.length = 48) (hb : allB zs) : sealZ (sealZ zs) = sealZ zs :=
  (sealed_iff (by rw [sealZ_len, hl]) (sealZ_B hb)).2 (c10_seal hl)
/-- with up to ten bits in a row turned over it isn't sealed, but where none is. -/
theorem seal_burst {zs : List Int} (hl : zs.length = 48) (hb : allB zs) (hs : sealZ zs = zs) (p b : Nat) (hp : p ≤ 384) : sealZ (burstZ zs p b 10) = burstZ zs p b 10 ↔ burstC 384 p b 10 = false := by
  have hl2 : (burstZ zs p b 10).length = 48 := by rw [burst_len, hl]
  rw [sealed_iff hl2 (burst_B hb p b 10)]
  have h := crc_burst 563#10 0#10 (by decide) hb p b 10 (by omega) (by omega)
  have hz := (sealed_iff hl hb).1 hs
  unfold c10 at hz ⊢
  rw [hz, hl] at h
  exact h
/-- the bytes that are checked: two bits 0 ahead. -/
def shiftZ (zs : List Int) : List Int := (List.range 47).map fun q => (if q = 0 then 0 else (zs[q - 1]?.getD 0) % 4 * 64) + (zs[q]?.getD 0) / 4
theorem shiftZ_len (zs : List Int) : (shiftZ zs).length = 47 := by simp [shiftZ]
theorem shiftZ_at (zs : List Int) (q : Nat) (hq : q < 47) : (shiftZ zs)[q]?.getD 0 = (if q = 0 then 0 else (zs[q - 1]?.getD 0) % 4 * 64) + (zs[q]?.getD 0) / 4 := by
  unfold shiftZ
  rw [List.getElem?_map, List.getElem?_range hq]; rfl
theorem bitAt_shift (a b : Int) (ha : isB a) (hb : isB b) (m : Nat) (hm : m < 8) : bitAt (a % 4 * 64 + b / 4) m = if m < 2 then bitAt a (m + 6) else bitAt b (m - 2) := by
  unfold isB at ha hb
  unfold bitAt
  have hc : m = 0 ∨ m = 1 ∨ m = 2 ∨ m = 3 ∨ m = 4 ∨ m = 5 ∨ m = 6 ∨ m = 7 := by omega
  rcases hc with rfl | rfl | rfl | rfl | rfl | rfl | rfl | rfl <;> (simp only [Nat.reduceLT, if_true, if_false, reduceIte]; rw [Bool.eq_iff_iff]; simp only [beq_iff_eq, Nat.reduceSub, Nat.reduceAdd]; omega)
theorem bits_shift {zs : List Int} (hl : zs.length = 48) (hb : allB zs) : bitsL (shiftZ zs) = [false, false] ++ (bitsL zs).take 374 := by
  apply List.ext_getElem?
  intro j
  by_cases hj : j < 376
  · rw [bitsL_at _ j (by rw [shiftZ_len]; omega)]
    unfold bitF
    rw [shiftZ_at _ _ (by omega)]
    have hB := byte_B hb
    by_cases h0 : j / 8 = 0
    · rw [if_pos h0, h0]
      have e := bitAt_shift 0 (zs[0]?.getD 0) (by unfold isB; omega) (hB 0) (j % 8) (by omega)
      rw [show (0 : Int) % 4 * 64 = 0 from rfl] at e
      rw [e]
      by_cases h2 : j < 2
      · rw [if_pos (by omega), List.getElem?_append_left (by simpa using h2), bitAt_zero]
        have : j = 0 ∨ j = 1 := by omega
        rcases this with rfl | rfl <;> rfl
      · rw [if_neg (by omega), List.getElem?_append_right (by simp; omega)]
        simp only [List.length_cons, List.length_nil]
        rw [List.getElem?_take_of_lt (by omega), bitsL_at _ _ (by omega)]
        unfold bitF
        congr 2
        · congr 2; omega
        · omega
    · rw [if_neg h0, bitAt_shift _ _ (hB _) (hB _) _ (by omega), List.getElem?_append_right (by simp; omega)]
      simp only [List.length_cons, List.length_nil]
      rw [List.getElem?_take_of_lt (by omega), bitsL_at _ _ (by omega)]
      unfold bitF
      by_cases h2 : j % 8 < 2
      · rw [if_pos h2]
        congr 2
        · congr 2; omega
        · omega
      · rw [if_neg h2]
        congr 2
        · congr 2; omega
        · omega
  · rw [List.getElem?_eq_none (by rw [bitsL_len, shiftZ_len]; omega), List.getElem?_eq_none (by simp [bitsL_len, hl]; omega)]
theorem t10_shift {zs : List Int} (hl : zs.length = 48) (hb : allB zs) : t10 (shiftZ zs) = regN zs := by
  rw [t10_nat]
  unfold c10 regN regZ
  rw [bits_shift hl hb, crcV_append]
  rfl
end Go.Proofs.Ytnjjejhniekdcaa
