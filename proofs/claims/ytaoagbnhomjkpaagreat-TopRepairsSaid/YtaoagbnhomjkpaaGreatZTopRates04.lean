import Derived.Deep.MidRow
import Derived.KernelRfl
import Derived.Test.YtaoagbnhomjkpaaGreatZTopRates00
import Derived.Test.YtaoagbnhomjkpaaGreatZTopRates02
import Derived.Test.YtaoagbnhomjkpaaGreatZTopRates03
/- The plain law of the checks: a burst of bits that are turned over changes them. -/
namespace Go.Proofs.YtaoagbnhomjkpaaGreat
set_option linter.unusedVariables false
set_option linter.unusedSimpArgs false
open Go.RowKit Crc
set_option maxRecDepth 100000
/-- bit number j of bytes. -/
def bitF (zs : List Int) (j : Nat) : Bool := bitAt (zs[j / 8]?.getD 0) (j % 8)
theorem bitsL_at : ∀ (zs : List Int) (j : Nat), j < 8 * zs.length → (bitsL zs)[j]? = some (bitF zs j)
  | [], j, h => by simp at h
  | z :: zs, j, h => by
    rw [bitsL_cons]
    by_cases hj : j < 8
    · rw [List.getElem?_append_left (by rw [bit8_len]; exact hj)]
      unfold bit8 bitF
      rw [List.getElem?_map, List.getElem?_range hj, Nat.div_eq_of_lt hj, Nat.mod_eq_of_lt hj]
      rfl
    · rw [List.getElem?_append_right (by rw [bit8_len]; omega), bit8_len, bitsL_at zs (j - 8) (by simp at h; omega)]
      unfold bitF
      have e1 : j / 8 = (j - 8) / 8 + 1 := by omega
      have e2 : j % 8 = (j - 8) % 8 := by omega
      rw [e1, e2, List.getElem?_cons_succ]
theorem bitsL_range (zs : List Int) : bitsL zs = (List.range (8 * zs.length)).map (bitF zs) := by
  apply List.ext_getElem?
  intro j
  by_cases hj : j < 8 * zs.length
  · rw [bitsL_at zs j hj, List.getElem?_map, List.getElem?_range hj]; rfl
  · rw [List.getElem?_eq_none (by rw [bitsL_len]; omega), List.getElem?_eq_none (by simp; omega)]
theorem bitAt_pow (m k : Nat) (hm : m < 8) (hk : k < 8) : bitAt (128 / 2 ^ m) k = (k == m) := by
  have h1 : m = 0 ∨ m = 1 ∨ m = 2 ∨ m = 3 ∨ m = 4 ∨ m = 5 ∨ m = 6 ∨ m = 7 := by omega
  have h2 : k = 0 ∨ k = 1 ∨ k = 2 ∨ k = 3 ∨ k = 4 ∨ k = 5 ∨ k = 6 ∨ k = 7 := by omega
  rcases h1 with rfl | rfl | rfl | rfl | rfl | rfl | rfl | rfl <;> rcases h2 with rfl | rfl | rfl | rfl | rfl | rfl | rfl | rfl <;> rfl
theorem bitAt_zero (k : Nat) : bitAt 0 k = false := by unfold bitAt; rw [Int.zero_ediv]; rfl
theorem bitF_flip {zs : List Int} (hb : allB zs) (k j : Nat) (hj : j < 8 * zs.length) : bitF (flipZ zs k) j = (bitF zs j != (j == k)) := by
  have hq : isB (zs[k / 8]?.getD 0) := by
    by_cases h : k / 8 < zs.length
    · rw [List.getElem?_eq_getElem h]; exact hb _ (List.getElem_mem h)
    · rw [List.getElem?_eq_none (by omega)]; unfold isB; simp
  unfold bitF flipZ
  rw [List.getElem?_set]
  by_cases h : k / 8 = j / 8
  · rw [if_pos h, if_pos (by omega)]
    show bitAt (bits .xor .u8 (zs[k / 8]?.getD 0) (128 / 2 ^ (k % 8))) (j % 8) = _
    rw [bitAt_xor hq (pow_isB _), bitAt_pow _ _ (Nat.mod_lt _ (by decide)) (Nat.mod_lt _ (by decide)), h]
    congr 1
    rw [Bool.eq_iff_iff, beq_iff_eq, beq_iff_eq]
    omega
  · rw [if_neg h]
    have e : (j == k) = false := by rw [beq_eq_false_iff_ne]; intro e; subst e; exact h rfl
    rw [e, Bool.bne_false]
/-- so many bits from bit p on, turned over as b tells. -/
def burstZ (zs : List Int) (p b : Nat) : Nat → List Int
  | 0 => zs
  | i + 1 => if b.testBit i && decide (p + i < 8 * zs.length) then flipZ (burstZ zs p b i) (p + i) else burstZ zs p b i
def burstC (L p b : Nat) : Nat → Bool
  | 0 => false
  | i + 1 => if b.testBit i && decide (p + i < L) then true else burstC L p b i
theorem burst_len (zs : List Int) (p b : Nat) : ∀ n, (burstZ zs p b n).length = zs.length
  | 0 => rfl
  | n + 1 => by
    unfold burstZ
    split
    · rw [flip_len, burst_len zs p b n]
    · exact burst_len zs p b n
theorem burst_B {zs : List Int} (hb : allB zs) (p b : Nat) : ∀ n, allB (burstZ zs p b n)
  | 0 => hb
  | n + 1 => by
    unfold burstZ
    split
    · exact flip_B (burst_B hb p b n) _
    · exact burst_B hb p b n
/-- which bits differ. -/
def diffF (p b n j : Nat) : Bool := decide (p ≤ j) && decide (j < p + n) && b.testBit (j - p)
theorem bitF_burst {zs : List Int} (hb : allB zs) (p b : Nat) : ∀ (n j : Nat), j < 8 * zs.length → bitF (burstZ zs p b n) j = (bitF zs j != diffF p b n j)
  | 0, j, hj => by
    have e : diffF p b 0 j = false := by unfold diffF; simp; omega
    rw [e, Bool.bne_false]; rfl
  | n + 1, j, hj => by
    have ih := bitF_burst hb p b n j hj
    unfold burstZ
    by_cases hjn : j = p + n
    · subst hjn
      have e1 : diffF p b n (p + n) = false := by unfold diffF; simp
      have e2 : diffF p b (n + 1) (p + n) = b.testBit n := by unfold diffF; simp
      rw [e1, Bool.bne_false] at ih
      rw [e2]
      cases ht : b.testBit n
      · simp [ih]
      · rw [if_pos (by simp; exact hj), bitF_flip (burst_B hb p b n) _ _ (by rw [burst_len]; exact hj), ih]
        simp
    · have e : diffF p b (n + 1) j = diffF p b n j := by
        unfold diffF
        have : decide (j < p + (n + 1)) = decide (j < p + n) := by rw [decide_eq_decide]; omega
        rw [this]
      rw [e]
      split
      · rw [bitF_flip (burst_B hb p b n) _ _ (by rw [burst_len]; exact hj), ih]
        have : (j == p + n) = false := by rw [beq_eq_false_iff_ne]; exact hjn
        rw [this, Bool.bne_false]
      · exact ih
def diffL (L p b n : Nat) : List Bool := (List.range L).map (diffF p b n)
theorem bitsL_burst {zs : List Int} (hb : allB zs) (p b n : Nat) : bitsL (burstZ zs p b n) = xorL (bitsL zs) (diffL (8 * zs.length) p b n) := by
  rw [bitsL_range, bitsL_range zs, burst_len]
  unfold xorL diffL
  rw [List.zipWith_map, List.zipWith_self]
  refine List.map_congr_left fun j hj => ?_
  exact bitF_burst hb p b n j (List.mem_range.1 hj)
theorem diffL_window (L p b n : Nat) (hp : p ≤ L) : diffL L p b n = List.replicate p false ++ (List.range (min n (L - p))).map b.testBit ++ List.replicate (L - p - min n (L - p)) false := by
  apply List.ext_getElem?
  intro j
  unfold diffL
  by_cases hj : j < L
  · rw [List.getElem?_map, List.getElem?_range hj]
    by_cases h1 : j < p
    · rw [List.append_assoc, List.getElem?_append_left (by simpa using h1), List.getElem?_replicate, if_pos h1]
      show some (diffF p b n j) = _
      unfold diffF
      rw [decide_eq_false (by omega)]; rfl
    · by_cases h2 : j < p + min n (L - p)
      · rw [List.getElem?_append_left (by simp; omega), List.getElem?_append_right (by simp; omega), List.length_replicate, List.getElem?_map, List.getElem?_range (by omega)]
        show some (diffF p b n j) = some _
        unfold diffF
        rw [decide_eq_true (by omega), decide_eq_true (by omega)]; simp
      · rw [List.getElem?_append_right (by simp; omega), List.getElem?_replicate, if_pos (by simp; omega)]
        show some (diffF p b n j) = _
        unfold diffF
        have : decide (j < p + n) = false := by simp; omega
        rw [this]; simp
  · rw [List.getElem?_eq_none (by simp; omega), List.getElem?_eq_none (by simp; omega)]
theorem burstC_iff (L p b : Nat) : ∀ n, burstC L p b n = true ↔ ∃ j, j < n ∧ b.testBit j = true ∧ p + j < L
  | 0 => by simp [burstC]
  | n + 1 => by
    unfold burstC
    split
    · rename_i h
      simp only [Bool.and_eq_true, decide_eq_true_eq] at h
      exact ⟨fun _ => ⟨n, by omega, h.1, h.2⟩, fun _ => rfl⟩
    · rename_i h
      simp only [Bool.and_eq_true, decide_eq_true_eq, not_and] at h
      rw [burstC_iff L p b n]
      constructor
      · rintro ⟨j, h1, h2⟩; exact ⟨j, by omega, h2⟩
      · rintro ⟨j, h1, h2, h3⟩
        refine ⟨j, ?_, h2, h3⟩
        rcases Nat.lt_or_ge j n with h4 | h4
        · exact h4
        · obtain rfl : j = n := by omega
          exact absurd h3 (h h2)
theorem window_zero (L p b n : Nat) (hp : p ≤ L) : ((List.range (min n (L - p))).map b.testBit = List.replicate ((List.range (min n (L - p))).map b.testBit).length false) ↔ burstC L p b n = false := by
  rw [← Bool.not_eq_true, burstC_iff, List.eq_replicate_iff]
  constructor
  · rintro ⟨_, h⟩ ⟨j, h1, h2, h3⟩
    have := h (b.testBit j) (List.mem_map.2 ⟨j, by simp; omega, rfl⟩)
    rw [h2] at this; cases this
  · intro h
    refine ⟨by simp, fun x hx => ?_⟩
    obtain ⟨j, hj, rfl⟩ := List.mem_map.1 hx
    simp at hj
    cases ht : b.testBit j
    · rfl
    · exact absurd ⟨j, by omega, ht, by omega⟩ h
/-- what a burst does to a register. -/
theorem crc_burst {m : Nat} (g r : BitVec m) (h0 : g.getLsbD 0 = true) {zs : List Int} (hb : allB zs) (p b n : Nat) (hp : p ≤ 8 * zs.length) (hn : n ≤ m) :
    crcV g r (bitsL (burstZ zs p b n)) = crcV g r (bitsL zs) ↔ burstC (8 * zs.length) p b n = false := by
  have e := crcV_xor g (bitsL zs) (diffL (8 * zs.length) p b n) r 0#m (by simp [diffL, bitsL_len])
  rw [BitVec.xor_zero] at e
  rw [bitsL_burst hb, e, ← window_zero (8 * zs.length) p b n hp, ← crcV_window g h0 p (8 * zs.length - p - min n (8 * zs.length - p)) _ (by simp; omega), ← diffL_window (8 * zs.length) p b n hp]
  constructor
  · intro h
    have h2 := congrArg (fun v => crcV g r (bitsL zs) ^^^ v) h
    simpa [← BitVec.xor_assoc] using h2
  · intro h; rw [h, BitVec.xor_zero]
theorem e8_burst {zs : List Int} (hb : allB zs) (p b : Nat) (hp : p ≤ 8 * zs.length) : (e8 (burstZ zs p b 8) != e8 zs) = burstC (8 * zs.length) p b 8 := by
  have h := crc_burst 7#8 0#8 (by decide) hb p b 8 hp (by omega)
  have h1 : (e8 (burstZ zs p b 8) = e8 zs) ↔ c8 (burstZ zs p b 8) = c8 zs := by
    rw [e8_nat, e8_nat]
    constructor
    · intro h
      have h2 : c8 (burstZ zs p b 8) ^^^ 85#8 = c8 zs ^^^ 85#8 := BitVec.eq_of_toNat_eq (by omega)
      have h3 := congrArg (fun v => v ^^^ 85#8) h2
      simpa [BitVec.xor_assoc] using h3
    · intro h; rw [h]
  have h2 : (e8 (burstZ zs p b 8) = e8 zs) ↔ burstC (8 * zs.length) p b 8 = false := h1.trans h
  cases hc : burstC (8 * zs.length) p b 8
  · rw [hc] at h2; simp [h2.2 rfl]
  · rw [hc] at h2; simpa using h2
theorem t10_burst {zs : List Int} (hb : allB zs) (p b : Nat) (hp : p ≤ 8 * zs.length) : (t10 (burstZ zs p b 10) != t10 zs) = burstC (8 * zs.length) p b 10 := by
  have h := crc_burst 563#10 0#10 (by decide) hb p b 10 hp (by omega)
  have h1 : (t10 (burstZ zs p b 10) = t10 zs) ↔ c10 (burstZ zs p b 10) = c10 zs := by
    rw [t10_nat, t10_nat]
    constructor
    · intro h
      exact BitVec.eq_of_toNat_eq (by omega)
    · intro h; rw [h]
  have h2 : (t10 (burstZ zs p b 10) = t10 zs) ↔ burstC (8 * zs.length) p b 10 = false := h1.trans h
  cases hc : burstC (8 * zs.length) p b 10
  · rw [hc] at h2; simp [h2.2 rfl]
  · rw [hc] at h2; simpa using h2
theorem l32_burst {zs : List Int} (hb : allB zs) (p b : Nat) (hp : p ≤ 8 * zs.length) : (l32 (burstZ zs p b 32) != l32 zs) = burstC (8 * zs.length) p b 32 := by
  have h := crc_burst 79764919#32 (BitVec.allOnes 32) (by decide) hb p b 32 hp (by omega)
  have h1 : (l32 (burstZ zs p b 32) = l32 zs) ↔ c32 (burstZ zs p b 32) = c32 zs := by
    rw [l32_nat, l32_nat]
    constructor
    · intro h
      have h2 : ~~~ c32 (burstZ zs p b 32) = ~~~ c32 zs := BitVec.eq_of_toNat_eq (by omega)
      have h3 := congrArg (fun v => ~~~ v) h2
      simpa using h3
    · intro h; rw [h]
  have h2 : (l32 (burstZ zs p b 32) = l32 zs) ↔ burstC (8 * zs.length) p b 32 = false := h1.trans h
  cases hc : burstC (8 * zs.length) p b 32
  · rw [hc] at h2; simp [h2.2 rfl]
  · rw [hc] at h2; simpa using h2
end Go.Proofs.YtaoagbnhomjkpaaGreat

/- The plain law of a payload's check. -/
namespace Go.Proofs.YtaoagbnhomjkpaaGreat
set_option linter.unusedVariables false
set_option linter.unusedSimpArgs false
open Go.RowKit Crc
set_option maxRecDepth 100000
/-- the check of a payload's bits but the last ten. -/
def regZ (zs : List Int) : BitVec 10 := crcV 563#10 0#10 ((bitsL zs).take 374)
def regN (zs : List Int) : Int := ((regZ zs).toNat : Int)
theorem regN_bd (zs : List Int) : 0 ≤ regN zs ∧ regN zs < 1024 := by have := (regZ zs).isLt; unfold regN; omega
/-- a payload with its check. -/
def sealZ (zs : List Int) : List Int := (zs.set 46 ((zs[46]?.getD 0) / 4 * 4 + regN zs / 256)).set 47 (regN zs % 256)
theorem sealZ_len (zs : List Int) : (sealZ zs).length = zs.length := by simp [sealZ]
theorem byte_B {zs : List Int} (hb : allB zs) (k : Nat) : isB (zs[k]?.getD 0) := by
  by_cases h : k < zs.length
  · rw [List.getElem?_eq_getElem h]; exact hb _ (List.getElem_mem h)
  · rw [List.getElem?_eq_none (by omega)]; unfold isB; simp
theorem sealZ_B {zs : List Int} (hb : allB zs) : allB (sealZ zs) := by
  intro z hz
  have hr := regN_bd zs
  have h46 := byte_B hb 46
  unfold isB at h46
  unfold sealZ at hz
  rcases List.mem_or_eq_of_mem_set hz with h | h
  · rcases List.mem_or_eq_of_mem_set h with h | h
    · exact hb z h
    · rw [h]; unfold isB; omega
  · rw [h]; unfold isB; omega
theorem sealZ_at {zs : List Int} (hl : zs.length = 48) (k : Nat) : (sealZ zs)[k]?.getD 0 = if k = 46 then (zs[46]?.getD 0) / 4 * 4 + regN zs / 256 else if k = 47 then regN zs % 256 else zs[k]?.getD 0 := by
  unfold sealZ
  rw [List.getElem?_set, List.getElem?_set]
  by_cases h1 : k = 46
  · subst h1
    rw [if_neg (by omega), if_pos rfl, if_pos (by omega), if_pos rfl]; rfl
  · by_cases h2 : k = 47
    · subst h2
      rw [if_pos rfl, if_pos (by simp; omega), if_neg (by omega), if_pos rfl]; rfl
    · rw [if_neg (by omega), if_neg (by omega), if_neg h1, if_neg h2]
theorem bitAt_high (z h : Int) (h0 : 0 ≤ h) (h1 : h < 4) (m : Nat) (hm : m < 6) : bitAt (z / 4 * 4 + h) m = bitAt z m := by
  unfold bitAt
  have hc : m = 0 ∨ m = 1 ∨ m = 2 ∨ m = 3 ∨ m = 4 ∨ m = 5 := by omega
  rcases hc with rfl | rfl | rfl | rfl | rfl | rfl <;> (rw [Bool.eq_iff_iff]; simp only [beq_iff_eq]; omega)
theorem bitAt_low (z h : Int) (h0 : 0 ≤ h) (h1 : h < 4) (m : Nat) (hm : 6 ≤ m) (hm2 : m < 8) : bitAt (z / 4 * 4 + h) m = bitAt h m := by
  unfold bitAt
  have hc : m = 6 ∨ m = 7 := by omega
  rcases hc with rfl | rfl <;> (rw [Bool.eq_iff_iff]; simp only [beq_iff_eq]; omega)
theorem bitAt_reg (v : BitVec 10) (m : Nat) (hm : 6 ≤ m) (hm2 : m < 8) : bitAt ((v.toNat : Int) / 256) m = v.getMsbD (m - 6) := by
  have e : (v.toNat : Int) / 256 = ((v.toNat / 256 : Nat) : Int) := by omega
  rw [e, bitAt_nat, show (256 : Nat) = 2 ^ 8 from rfl, Nat.testBit_div_two_pow, BitVec.getMsbD_eq_getLsbD, decide_eq_true (by omega), Bool.true_and]
  show v.toNat.testBit _ = v.toNat.testBit _
  congr 1; omega
theorem bitAt_reg2 (v : BitVec 10) (m : Nat) (hm2 : m < 8) : bitAt ((v.toNat : Int) % 256) m = v.getMsbD (m + 2) := by
  have e : (v.toNat : Int) % 256 = ((v.toNat % 2 ^ 8 : Nat) : Int) := by omega
  rw [e, bitAt_nat, Nat.testBit_mod_two_pow, decide_eq_true (by omega), Bool.true_and, BitVec.getMsbD_eq_getLsbD, decide_eq_true (by omega), Bool.true_and]
  show v.toNat.testBit _ = v.toNat.testBit _
  congr 1; omega
theorem bitF_seal {zs : List Int} (hl : zs.length = 48) (j : Nat) (hj : j < 384) : bitF (sealZ zs) j = if j < 374 then bitF zs j else (regZ zs).getMsbD (j - 374) := by
  have hr := regN_bd zs
  unfold bitF
  rw [sealZ_at hl]
  by_cases h1 : j / 8 = 46
  · rw [if_pos h1, h1]
    by_cases h2 : j < 374
    · rw [if_pos h2, bitAt_high _ _ (by omega) (by omega) _ (by omega)]
    · rw [if_neg h2, bitAt_low _ _ (by omega) (by omega) _ (by omega) (by omega)]
      unfold regN
      rw [bitAt_reg _ _ (by omega) (by omega)]
      congr 1; omega
  · rw [if_neg h1]
    by_cases h3 : j / 8 = 47
    · rw [if_pos h3, if_neg (by omega)]
      unfold regN
      rw [bitAt_reg2 _ _ (by omega)]
      congr 1; omega
    · rw [if_neg h3, if_pos (by omega)]
theorem bits_seal {zs : List Int} (hl : zs.length = 48) : bitsL (sealZ zs) = (bitsL zs).take 374 ++ hi (regZ zs) 10 := by
  apply List.ext_getElem?
  intro j
  by_cases hj : j < 384
  · rw [bitsL_at _ j (by rw [sealZ_len, hl]; omega), bitF_seal hl j hj]
    by_cases h : j < 374
    · rw [if_pos h, List.getElem?_append_left (by rw [List.length_take, bitsL_len, hl]; omega), List.getElem?_take_of_lt h, bitsL_at _ j (by omega)]
    · rw [if_neg h, List.getElem?_append_right (by rw [List.length_take, bitsL_len, hl]; omega), List.length_take, bitsL_len, hl]
      unfold hi
      rw [List.getElem?_map, List.getElem?_range (by omega)]
      simp
  · rw [List.getElem?_eq_none (by rw [bitsL_len, sealZ_len, hl]; omega), List.getElem?_eq_none (by rw [List.length_append, List.length_take, bitsL_len, hl, hi_len]; omega)]
theorem regZ_seal {zs : List Int} (hl : zs.length = 48) : regZ (sealZ zs) = regZ zs := by
  unfold regZ
  rw [bits_seal hl, List.take_append_of_le_length (by rw [List.length_take, bitsL_len, hl]; omega), List.take_take]
  rfl
theorem c10_seal {zs : List Int} (hl : zs.length = 48) : c10 (sealZ zs) = 0#10 := by
  unfold c10
  rw [bits_seal hl, crcV_append]
  exact crcV_own _ _
theorem bit8_inj {a b : Int} (ha : isB a) (hb : isB b) (h : bit8 a = bit8 b) : a = b := by
  have h1 : ∀ j, j < 8 → bitAt a j = bitAt b j := fun j hj => by
    have := congrArg (fun l => l[j]?) h
    simpa [bit8, hj] using this
  have k (j : Nat) (hj : j < 8) : a / 2 ^ (7 - j) % 2 = b / 2 ^ (7 - j) % 2 := by
    have := h1 j hj
    unfold bitAt at this
    rw [Bool.eq_iff_iff] at this
    simp only [beq_iff_eq] at this
    omega
  have k0 := k 0 (by omega)
  have k1 := k 1 (by omega)
  have k2 := k 2 (by omega)
  have k3 := k 3 (by omega)
  have k4 := k 4 (by omega)
  have k5 := k 5 (by omega)
  have k6 := k 6 (by omega)
  have k7 := k 7 (by omega)
  unfold isB at ha hb
  simp only [Nat.reduceSub, Int.reducePow] at k0 k1 k2 k3 k4 k5 k6 k7
  omega
theorem bitsL_inj : ∀ {xs ys : List Int}, xs.length = ys.length → allB xs → allB ys → bitsL xs = bitsL ys → xs = ys
  | [], [], _, _, _, _ => rfl
  | x :: xs, y :: ys, h, hx, hy, he => by
    rw [bitsL_cons, bitsL_cons] at he
    obtain ⟨h1, h2⟩ := List.append_inj he (by rw [bit8_len, bit8_len])
    rw [bit8_inj (hx x (by simp)) (hy y (by simp)) h1, bitsL_inj (by simpa using h) (fun z hz => hx z (by simp [hz])) (fun z hz => hy z (by simp [hz])) h2]
/-- is it sealed? -/
theorem sealed_iff {zs : List Int} (hl : zs.length = 48) (hb : allB zs) : sealZ zs = zs ↔ c10 zs = 0#10 := by
  constructor
  · intro h; rw [← h]; exact c10_seal hl
  · intro h
    refine bitsL_inj (by rw [sealZ_len]) (sealZ_B hb) hb ?_
    rw [bits_seal hl]
    have e : bitsL zs = (bitsL zs).take 374 ++ (bitsL zs).drop 374 := (List.take_append_drop _ _).symm
    have h2 := h
    unfold c10 at h2
    rw [e, crcV_append] at h2
    have hd : ((bitsL zs).drop 374).length = 10 := by rw [List.length_drop, bitsL_len, hl]
    have h3 := (crcV_short 563#10 (by decide) ((bitsL zs).drop 374) _ (by omega) h2).1
    rw [hd] at h3
    conv => rhs; rw [e, h3]
    rfl
theorem seal_seal {zs : List Int} (hl : zs.length = 48) (hb : allB zs) : sealZ (sealZ zs) = sealZ zs :=
  (sealed_iff (by rw [sealZ_len, hl]) (sealZ_B hb)).2 (c10_seal hl)
/-- with up to ten bits in a row turned over it isn't sealed, but where none is. -/
theorem seal_burst {zs : List Int} (hl : zs.length = 48) (hb : allB zs) (hs : sealZ zs = zs) (p b : Nat) (hp : p ≤ 384) : sealZ (burstZ zs p b 10) = burstZ zs p b 10 ↔ burstC 384 p b 10 = false := by
  have hl2 : (burstZ zs p b 10).length = 48 := by rw [burst_len, hl]
  rw [sealed_iff hl2 (burst_B hb p b 10)]
  have h := crc_burst 563#10 0#10 (by decide) hb p b 10 (by omega) (by omega)
  have hz := (sealed_iff hl hb).1 hs
  unfold c10 at hz ⊢
  rw [hz, hl] at h
  exact h
/-- the bytes that are checked: two bits 0 ahead. -/
def shiftZ (zs : List Int) : List Int := (List.range 47).map fun q => (if q = 0 then 0 else (zs[q - 1]?.getD 0) % 4 * 64) + (zs[q]?.getD 0) / 4
theorem shiftZ_len (zs : List Int) : (shiftZ zs).length = 47 := by simp [shiftZ]
theorem shiftZ_at (zs : List Int) (q : Nat) (hq : q < 47) : (shiftZ zs)[q]?.getD 0 = (if q = 0 then 0 else (zs[q - 1]?.getD 0) % 4 * 64) + (zs[q]?.getD 0) / 4 := by
  unfold shiftZ
  rw [List.getElem?_map, List.getElem?_range hq]; rfl
theorem bitAt_shift (a b : Int) (ha : isB a) (hb : isB b) (m : Nat) (hm : m < 8) : bitAt (a % 4 * 64 + b / 4) m = if m < 2 then bitAt a (m + 6) else bitAt b (m - 2) := by
  unfold isB at ha hb
  unfold bitAt
  have hc : m = 0 ∨ m = 1 ∨ m = 2 ∨ m = 3 ∨ m = 4 ∨ m = 5 ∨ m = 6 ∨ m = 7 := by omega
  rcases hc with rfl | rfl | rfl | rfl | rfl | rfl | rfl | rfl <;> (simp only [Nat.reduceLT, if_true, if_false, reduceIte]; rw [Bool.eq_iff_iff]; simp only [beq_iff_eq, Nat.reduceSub, Nat.reduceAdd]; omega)
theorem bits_shift {zs : List Int} (hl : zs.length = 48) (hb : allB zs) : bitsL (shiftZ zs) = [false, false] ++ (bitsL zs).take 374 := by
  apply List.ext_getElem?
  intro j
  by_cases hj : j < 376
  · rw [bitsL_at _ j (by rw [shiftZ_len]; omega)]
    unfold bitF
    rw [shiftZ_at _ _ (by omega)]
    have hB := byte_B hb
    by_cases h0 : j / 8 = 0
    · rw [if_pos h0, h0]
      have e := bitAt_shift 0 (zs[0]?.getD 0) (by unfold isB; omega) (hB 0) (j % 8) (by omega)
      rw [show (0 : Int) % 4 * 64 = 0 from rfl] at e
      rw [e]
      by_cases h2 : j < 2
      · rw [if_pos (by omega), List.getElem?_append_left (by simpa using h2), bitAt_zero]
        have : j = 0 ∨ j = 1 := by omega
        rcases this with rfl | rfl <;> rfl
      · rw [if_neg (by omega), List.getElem?_append_right (by simp; omega)]
        simp only [List.length_cons, List.length_nil]
        rw [List.getElem?_take_of_lt (by omega), bitsL_at _ _ (by omega)]
        unfold bitF
        congr 2
        · congr 2; omega
        · omega
    · rw [if_neg h0, bitAt_shift _ _ (hB _) (hB _) _ (by omega), List.getElem?_append_right (by simp; omega)]
      simp only [List.length_cons, List.length_nil]
      rw [List.getElem?_take_of_lt (by omega), bitsL_at _ _ (by omega)]
      unfold bitF
      by_cases h2 : j % 8 < 2
      · rw [if_pos h2]
        congr 2
        · congr 2; omega
        · omega
      · rw [if_neg h2]
        congr 2
        · congr 2; omega
        · omega
  · rw [List.getElem?_eq_none (by rw [bitsL_len, shiftZ_len]; omega), List.getElem?_eq_none (by simp [bitsL_len, hl]; omega)]
theorem t10_shift {zs : List Int} (hl : zs.length = 48) (hb : allB zs) : t10 (shiftZ zs) = regN zs := by
  rw [t10_nat]
  unfold c10 regN regZ
  rw [bits_shift hl hb, crcV_append]
  rfl
end Go.Proofs.YtaoagbnhomjkpaaGreat

/- Arrays of bytes, whole: out of memory and into it, however long. -/
namespace Go.Proofs.YtaoagbnhomjkpaaGreat
set_option linter.unusedVariables false
set_option linter.unusedSimpArgs false
open Go.RowKit
/-- the cells of bytes. -/
abbrev u8s (zs : List Int) : List Value := zs.map (Value.int .u8)
theorem one_u8s (zs : List Int) : (u8s zs).toArray.all (·.oneCell') = true := all_oneCell_toArray (fun v hv => by obtain ⟨z, _, rfl⟩ := List.mem_map.1 hv; rfl)
theorem bytes_topU {w : World} {b : Nat} {cs : Array Value} {E : TypeId} {fr : Nat × Nat} (zs : List Int) (hb : b = w.heap.size) (hc : cs = (u8s zs).toArray) (hz : ∀ z ∈ zs, 0 ≤ z ∧ z < 256) (hm : zs.length ≤ 140737488355328) : BytesAt (w.alloc (.cells cs E fr)) (some ⟨b, 0, none⟩) zs.length zs := by
  subst hb; subst hc; exact bytes_lit zs hz hm
theorem frozen_under {w : World} {o : Obj} {b i : Nat} (h : b < w.heap.size) : (w.alloc o).frozen? ⟨b, i, none⟩ = w.frozen? ⟨b, i, none⟩ := World.frozen?_alloc_past o b i h
theorem BytesAt.range {w : World} {b off n : Nat} {zs : List Int} (h : BytesAt w (some ⟨b, off, none⟩) n zs) : w.rangeAt b off (u8s zs) := fun j v hv => by
  rw [List.getElem?_map] at hv
  by_cases hj : j < zs.length
  · rw [List.getElem?_eq_getElem hj] at hv
    obtain ⟨b', off', e, _, hc⟩ := h.cells (by rw [← h.length]; omega)
    injection e with e; injection e with e1 e2; subst e1; subst e2
    have := hc j (by rw [← h.length]; exact hj)
    rw [this, List.getElem?_eq_getElem hj, ← hv]
    rfl
  · rw [List.getElem?_eq_none (by omega)] at hv; simp at hv
theorem bytes_range {w : World} {b off : Nat} {zs : List Int} (h : w.rangeAt b off (u8s zs)) (hb : b < w.heap.size) (hz : ∀ z ∈ zs, 0 ≤ z ∧ z < 256) (hm : zs.length ≤ 140737488355328) : BytesAt w (some ⟨b, off, none⟩) zs.length zs :=
  ⟨rfl, hm, fun k => by
    by_cases hk : k < zs.length
    · rw [List.getElem?_eq_getElem hk]; exact hz _ (List.getElem_mem hk)
    · rw [List.getElem?_eq_none (by omega)]; simp, fun _ => ⟨b, off, rfl, hb, fun k hk => h k _ (by rw [List.getElem?_map, List.getElem?_eq_getElem hk]; rfl)⟩⟩
theorem Below.setCells {B b : Nat} : ∀ (vs : List Value) (o : Nat) {w w' : World}, Below B w w' → B ≤ b → Below B w (w'.setCells b o vs)
  | [], _, _, _, h, _ => h
  | v :: r, o, w, w', h, hb => Below.setCells r (o + 1) (h.setCell (p := ⟨b, o, none⟩) hb v) hb
theorem Chg.setCells {p b : Nat} : ∀ (vs : List Value) (o : Nat) {w w' : World}, Chg p w w' → w.heap.size ≤ b → Chg p w (w'.setCells b o vs)
  | [], _, _, _, h, _ => h
  | v :: r, o, w, w', h, hb => Chg.setCells r (o + 1) (h.setNew hb o v) hb
theorem size_setCells (b : Nat) : ∀ (vs : List Value) (o : Nat) (w : World), (w.setCells b o vs).heap.size = w.heap.size
  | [], _, _ => rfl
  | v :: r, o, w => by rw [World.setCells, size_setCells b r, World.size_setCell]
theorem BytesAt.setOther {w : World} {a : Option Addr} {len p o : Nat} {v : Value} {zs : List Int} (h : BytesAt w a len zs) (hn : ∀ b off, a = some ⟨b, off, none⟩ → b ≠ p) : BytesAt (w.setCell ⟨p, o, none⟩ v) a len zs :=
  ⟨h.length, h.most, h.byte, fun hp => by
    obtain ⟨b, off, h1, h2, h3⟩ := h.cells hp
    exact ⟨b, off, h1, by simpa using h2, fun k hk => cell_beside (fun e => hn b off h1 e.symm) (h3 k hk)⟩⟩
/-- the first k of one list, the others of another one. -/
def stepJ (xs js : List Int) (k : Nat) : List Int := js.take k ++ xs.drop k
theorem stepJ_len {xs js : List Int} (h : js.length = xs.length) (k : Nat) (hk : k ≤ xs.length) : (stepJ xs js k).length = xs.length := by
  unfold stepJ; simp; omega
theorem stepJ_set {xs js : List Int} (h : js.length = xs.length) {k : Nat} (hk : k < xs.length) : (stepJ xs js k).set k (js[k]?.getD 0) = stepJ xs js (k + 1) := by
  apply List.ext_getElem?
  intro i
  unfold stepJ
  rw [List.getElem?_set]
  by_cases h1 : k = i
  · subst h1
    rw [if_pos rfl, if_pos (by simp; omega), List.getElem?_append_left (by simp; omega), List.getElem?_take_of_lt (by omega), List.getElem?_eq_getElem (by omega)]
    simp
  · rw [if_neg h1]
    by_cases h2 : i < k
    · rw [List.getElem?_append_left (by simp; omega), List.getElem?_append_left (by simp; omega), List.getElem?_take_of_lt h2, List.getElem?_take_of_lt (by omega)]
    · rw [List.getElem?_append_right (by simp; omega), List.getElem?_append_right (by simp; omega), List.getElem?_drop, List.getElem?_drop]
      congr 1
      simp
      omega
theorem stepJ_all {xs js : List Int} (h : js.length = xs.length) : stepJ xs js xs.length = js := by
  unfold stepJ
  rw [List.take_of_length_le (by omega), List.drop_eq_nil_of_le (Nat.le_refl _), List.append_nil]
theorem BytesAt.setRow {w : World} {g len q : Nat} {zs : List Int} {x : Int} (h : BytesAt w (some ⟨g, 0, none⟩) len zs) (hq : q < len) (x0 : 0 ≤ x) (x1 : x < 256) {zs' : List Int} (he : zs.set q x = zs') : BytesAt (w.setCell ⟨g, q, none⟩ (.int .u8 x)) (some ⟨g, 0, none⟩) len zs' := by
  subst he; exact h.set hq x0 x1
theorem BytesAt.cellAt {w : World} {g off len k : Nat} {zs : List Int} (h : BytesAt w (some ⟨g, off, none⟩) len zs) (hk : k < len) : w.cell? ⟨g, off + k, none⟩ = some (.int .u8 (zs[k]?.getD 0)) := by
  obtain ⟨b', off', e, _, hc⟩ := h.cells (by omega)
  injection e with e; injection e with e1 e2; subst e1; subst e2
  exact hc k hk
theorem u8_or_nat (a b : Nat) (ha : a < 256) (hb : b < 256) : bits .or .u8 (a : Int) (b : Int) = ((a ||| b : Nat) : Int) := by
  have hor : a ||| b < 2 ^ 8 := Nat.or_lt_two_pow (by omega) (by omega)
  have h1 : (BitVec.ofInt 8 (a : Int)).toNat = a := by simp; omega
  have h2 : (BitVec.ofInt 8 (b : Int)).toNat = b := by simp; omega
  show IntKind.u8.wrap ((BitVec.ofInt 8 (a : Int) ||| BitVec.ofInt 8 (b : Int)).toNat : Int) = _
  rw [BitVec.toNat_or, h1, h2]
  simp [IntKind.bits, IntKind.wrap, IntKind.signed]
  omega
theorem u8_or_plus (k : Nat) (a b : Int) (h0 : 0 ≤ a) (h1 : a * 2 ^ k < 256) (h2 : 0 ≤ b) (h3 : b < 2 ^ k) (h4 : b < 256) : bits .or .u8 (a * 2 ^ k) b = a * 2 ^ k + b := by
  obtain ⟨m, rfl⟩ := Int.eq_ofNat_of_zero_le h0
  obtain ⟨n, rfl⟩ := Int.eq_ofNat_of_zero_le h2
  have e : (m : Int) * 2 ^ k = ((2 ^ k * m : Nat) : Int) := by push_cast; rw [Int.mul_comm]
  have h3' : n < 2 ^ k := by exact_mod_cast h3
  rw [e] at h1 ⊢
  rw [u8_or_nat _ _ (by omega) (by omega), ← Nat.two_pow_add_eq_or_of_lt h3']
  push_cast; rfl
theorem u8_andNot3 (z : Int) (h0 : 0 ≤ z) (h1 : z < 256) : bits .andNot .u8 z 3 = z / 4 * 4 := by
  obtain ⟨k, hk⟩ : ∃ k : Nat, z = (k : Int) := ⟨z.toNat, by omega⟩
  subst hk
  have hall : (List.range 256).all (fun k => bits .andNot .u8 (k : Int) 3 == (k : Int) / 4 * 4) = true := by kernel_rfl
  have := List.all_eq_true.1 hall k (List.mem_range.2 (by omega))
  simpa using this
theorem BytesAt.drew {w : World} {a : Option Addr} {len : Nat} {zs : List Int} (h : BytesAt w a len zs) : BytesAt w.drew a len zs := h.below (Below.drew (Below.refl _ _))
theorem BytesAt.drewN {w : World} {a : Option Addr} {len : Nat} {zs : List Int} (h : BytesAt w a len zs) (n : Nat) : BytesAt (w.drewN n) a len zs := h.below (below_drewN (Below.refl _ _) n)
theorem und48 : Tryz.prog.underlying 24 = some (.array 48 5) := by kernel_rfl
theorem siz48 : (Tryz.prog.info? 24).map (·.size) = some 48 := by kernel_rfl
/-- they lie there, and may be written. -/
theorem BytesAt.thereAt {w : World} {b off n : Nat} {zs : List Int} (h : BytesAt w (some ⟨b, off, none⟩) n zs) (hf : ∀ o, w.frozen? ⟨b, o, none⟩ = false) : w.there b off n := fun j hj => ⟨by rw [h.cellAt hj]; rfl, hf _⟩
theorem frozen_drew {w : World} {p : Addr} {x : Bool} (h : w.frozen? p = x) : w.drew.frozen? p = x := h
theorem frozen_drewN {w : World} {p : Addr} {x : Bool} (n : Nat) (h : w.frozen? p = x) : (w.drewN n).frozen? p = x := by
  obtain ⟨_, hf⟩ := And.intro trivial ((below_drewN (Below.refl (p.block + 1) w) n).frozen (p := p) (by omega))
  exact hf.trans h
theorem frozen_setCell {w : World} {p q : Addr} {v : Value} {x : Bool} (h : w.frozen? p = x) : (w.setCell q v).frozen? p = x := by rw [World.frozen?_setCell]; exact h
end Go.Proofs.YtaoagbnhomjkpaaGreat

/- The walk of cell.Seal. -/
namespace Go.Proofs.YtaoagbnhomjkpaaGreat
set_option linter.unusedVariables false
set_option linter.unusedSimpArgs false
open Go.RowKit
set_option maxRecDepth 100000
set_option maxHeartbeats 4000000
theorem cellSeal_any (zs : List Int) (w : World) (hl : zs.length = 48) (hb : allB zs) :
    Calls Tryz.prog 102 #[.agg (u8s zs).toArray] w fun e w' => e = .returned (.agg (u8s (sealZ zs)).toArray) ∧ Below w.heap.size w w' := by
  have hsz : (u8s zs).toArray.size = 48 := by simp [hl]
  go_enter Tryz.func102, Tryz.ntmps102
  go_wp2
  obtain ⟨w1, hw1⟩ : ∃ w1, w1 = ((w.alloc (.cells (u8s zs).toArray 24)).alloc (.cells #[.int .u8 0, .int .u8 0, .int .u8 0, .int .u8 0, .int .u8 0, .int .u8 0, .int .u8 0, .int .u8 0, .int .u8 0, .int .u8 0, .int .u8 0, .int .u8 0, .int .u8 0, .int .u8 0, .int .u8 0, .int .u8 0, .int .u8 0, .int .u8 0, .int .u8 0, .int .u8 0, .int .u8 0, .int .u8 0, .int .u8 0, .int .u8 0, .int .u8 0, .int .u8 0, .int .u8 0, .int .u8 0, .int .u8 0, .int .u8 0, .int .u8 0, .int .u8 0, .int .u8 0, .int .u8 0, .int .u8 0, .int .u8 0, .int .u8 0, .int .u8 0, .int .u8 0, .int .u8 0, .int .u8 0, .int .u8 0, .int .u8 0, .int .u8 0, .int .u8 0, .int .u8 0, .int .u8 0, .int .u8 0] 24)).alloc (.cells #[.int .u8 0, .int .u8 0, .int .u8 0, .int .u8 0, .int .u8 0, .int .u8 0, .int .u8 0, .int .u8 0, .int .u8 0, .int .u8 0, .int .u8 0, .int .u8 0, .int .u8 0, .int .u8 0, .int .u8 0, .int .u8 0, .int .u8 0, .int .u8 0, .int .u8 0, .int .u8 0, .int .u8 0, .int .u8 0, .int .u8 0, .int .u8 0, .int .u8 0, .int .u8 0, .int .u8 0, .int .u8 0, .int .u8 0, .int .u8 0, .int .u8 0, .int .u8 0, .int .u8 0, .int .u8 0, .int .u8 0, .int .u8 0, .int .u8 0, .int .u8 0, .int .u8 0, .int .u8 0, .int .u8 0, .int .u8 0, .int .u8 0, .int .u8 0, .int .u8 0, .int .u8 0, .int .u8 0] 248) := ⟨_, rfl⟩
  have Z0 : BytesAt w1 (some ⟨w.heap.size, 0, none⟩) 48 zs := by
    have h := bytes_lit (w := w) (E := 24) (fr := (0, 0)) zs hb (by omega)
    rw [hl] at h
    rw [hw1]
    exact (h.below ((Below.refl _ _).alloc (Nat.le_refl _) _)).below ((Below.refl _ _).alloc (Nat.le_refl _) _)
  have T0 : BytesAt w1 (some ⟨w.heap.size + 1, 0, none⟩) 48 (List.replicate 48 0) := by
    rw [hw1]
    exact BytesAt.below (bytes_topU (List.replicate 48 0) (by simp) (by rfl) (by decide) (by decide)) ((Below.refl _ _).alloc (Nat.le_refl _) _)
  have H0 : BytesAt w1 (some ⟨w.heap.size + 1 + 1, 0, none⟩) 47 (stepJ (List.replicate 47 0) (shiftZ zs) 0) := by
    rw [hw1]
    exact bytes_topU (List.replicate 47 0) (by simp) (by rfl) (by decide) (by decide)
  have FZ : ∀ o, w1.frozen? ⟨w.heap.size, o, none⟩ = false := fun o => by
    rw [hw1, frozen_under (by simp; omega), frozen_under (by simp)]; exact frozen_top rfl
  have FT : ∀ o, w1.frozen? ⟨w.heap.size + 1, o, none⟩ = false := fun o => by
    rw [hw1, frozen_under (by simp)]; exact frozen_top (by simp)
  have FH : ∀ o, w1.frozen? ⟨w.heap.size + 1 + 1, o, none⟩ = false := fun o => by
    rw [hw1]; exact frozen_top (by simp)
  have B0 : Below w.heap.size w w1 := by rw [hw1]; (repeat' (first | (with_reducible exact Below.refl _ _) | (with_reducible assumption) | (with_reducible refine below_drewN ?_ _) | (with_reducible refine Below.drew ?_) | ((with_reducible refine Below.alloc ?_ ?_ _); (rotate_left; focus (first | omega | (simp; done) | (simp; omega)))) | ((with_reducible refine Below.setCell ?_ ?_ _); (rotate_left; focus (first | omega | (simp; done) | (simp; omega)))) | (with_reducible refine Below.grown ?_ (by assumption) (by first | omega | (simp; omega)) (by simp [Value.ownBlock]; try omega)) | (with_reducible refine below_then ?_ (Aft.below _)) | (with_reducible apply below_then; rotate_left; assumption)))
  rw [← hw1]
  clear hw1
  have hjl : (shiftZ zs).length = (List.replicate 47 (0 : Int)).length := by rw [shiftZ_len]; simp
  go_loopw [4, 5, 7] (fun s4 s5 s7 wr => ∃ i : Nat, i ≤ 47 ∧ s7 = .int .i64 i ∧ s4 = .int .u8 (if i = 0 then 0 else (zs[i - 1]?.getD 0) % 4 * 64) ∧ BytesAt wr (some ⟨w.heap.size, 0, none⟩) 48 zs ∧ BytesAt wr (some ⟨w.heap.size + 1, 0, none⟩) 48 (List.replicate 48 0) ∧ BytesAt wr (some ⟨w.heap.size + 1 + 1, 0, none⟩) 47 (stepJ (List.replicate 47 0) (shiftZ zs) i) ∧ (∀ o, wr.frozen? ⟨w.heap.size, o, none⟩ = false) ∧ (∀ o, wr.frozen? ⟨w.heap.size + 1, o, none⟩ = false) ∧ (∀ o, wr.frozen? ⟨w.heap.size + 1 + 1, o, none⟩ = false) ∧ Below w.heap.size w wr) (fun s4 s5 s7 wr => 47 - (intOf s7).toNat)
  case atStart => exact ⟨0, by omega, rfl, rfl, Z0, T0, H0, FZ, FT, FH, B0⟩
  case round =>
    clear Z0 T0 H0 FZ FT FH B0
    obtain ⟨i, hi, rfl, rfl, Z0, T0, H0, FZ, FT, FH, hBw⟩ := hrel
    by_cases hlt : i < 47
    · have cz := Z0.cellAt (k := i) (by omega)
      have ch := H0.cellAt (k := i) hlt
      rw [Nat.zero_add] at cz ch
      have fh := FH i
      have hB := byte_B hb
      have hi47 : (i : Int) < 47 := by omega
      have hi48 : (i : Int) < 48 := by omega
      have hi48' : i < 48 := by omega
      obtain ⟨ca, hca⟩ : ∃ ca, (if i = 0 then 0 else (zs[i - 1]?.getD 0) % 4 * 64) = ca := ⟨_, rfl⟩
      have hcab : 0 ≤ ca ∧ ca < 256 := by
        rw [← hca]; split
        · omega
        · have := hB (i - 1); unfold isB at this; omega
      have hcaq : ∃ q, ca = q * 2 ^ 6 ∧ 0 ≤ q ∧ q < 4 := by
        rw [← hca]; split
        · exact ⟨0, by omega, by omega, by omega⟩
        · exact ⟨(zs[i - 1]?.getD 0) % 4, by omega, by omega, by omega⟩
      obtain ⟨z, hz⟩ : ∃ z, zs[i]?.getD 0 = z := ⟨_, rfl⟩
      have hzb : 0 ≤ z ∧ z < 256 := by rw [← hz]; exact hB i
      obtain ⟨cq, hcq1, hcq2, hcq3⟩ := hcaq
      have hor : bits .or .u8 ca (z / 4) = ca + z / 4 := by rw [hcq1]; exact u8_or_plus 6 cq (z / 4) hcq2 (by omega) (by omega) (by omega) (by omega)
      have hsum : ca + z / 4 < 256 := by rw [hcq1]; omega
      have hval : (shiftZ zs)[i]?.getD 0 = ca + z / 4 := by rw [shiftZ_at zs i hlt, hca, hz]
      have hset := stepJ_set hjl (k := i) (by simpa using hlt)
      rw [hval] at hset
      rw [hz] at cz
      rw [hca]
      have HCA := Lib.hid hca
      have HZ := Lib.hid hz
      have HSET := Lib.hid hset
      have HVAL := Lib.hid hval
      clear hca hz hset hval hcq1
      go_wp2
      go_roundw
      case rel =>
        refine ⟨i + 1, by omega, by push_cast; rfl, ?_, ?_, ?_, ?_, ?_, ?_, ?_, ?_⟩
        · have hz := HZ.out
          rw [if_neg (by omega), Nat.add_sub_cancel, hz]
          congr 1; omega
        · exact Z0.setOther (fun b off e => by injection e with e; injection e with e1; omega)
        · exact T0.setOther (fun b off e => by injection e with e; injection e with e1; omega)
        · exact H0.setRow hlt (by omega) (by omega) HSET.out
        · intro o; rw [World.frozen?_setCell]; exact FZ o
        · intro o; rw [World.frozen?_setCell]; exact FT o
        · intro o; rw [World.frozen?_setCell]; exact FH o
        · (repeat' (first | (with_reducible exact Below.refl _ _) | (with_reducible assumption) | (with_reducible refine below_drewN ?_ _) | (with_reducible refine Below.drew ?_) | ((with_reducible refine Below.alloc ?_ ?_ _); (rotate_left; focus (first | omega | (simp; done) | (simp; omega)))) | ((with_reducible refine Below.setCell ?_ ?_ _); (rotate_left; focus (first | omega | (simp; done) | (simp; omega)))) | (with_reducible refine Below.grown ?_ (by assumption) (by first | omega | (simp; omega)) (by simp [Value.ownBlock]; try omega)) | (with_reducible refine below_then ?_ (Aft.below _)) | (with_reducible apply below_then; rotate_left; assumption)))
      case measure => show 47 - ((i : Int) + 1).toNat < 47 - (i : Int).toNat; omega
    · obtain rfl : i = 47 := by omega
      have hall : stepJ (List.replicate 47 0) (shiftZ zs) 47 = shiftZ zs := by
        have := stepJ_all hjl; simpa using this
      rw [hall] at H0
      have hwr : w.heap.size + 1 + 1 < wr.heap.size := by
        obtain ⟨b', o', e, h, _⟩ := H0.cells (by omega); injection e with e; injection e with e1 e2; subst e1; exact h
      have hwr1 : w.heap.size < wr.heap.size := by omega
      have hwr2 : w.heap.size + 1 < wr.heap.size := by omega
      have c46 := Z0.cellAt (k := 46) (by omega)
      have c47 := Z0.cellAt (k := 47) (by omega)
      rw [Nat.zero_add] at c46 c47
      have f46 := FZ 46
      have f47 := FZ 47
      obtain ⟨z, hz⟩ : ∃ z, zs[46]?.getD 0 = z := ⟨_, rfl⟩
      have hzb : 0 ≤ z ∧ z < 256 := by rw [← hz]; exact byte_B hb 46
      obtain ⟨n, hn⟩ : ∃ n, regN zs = n := ⟨_, rfl⟩
      have hnb : 0 ≤ n ∧ n < 1024 := by rw [← hn]; exact regN_bd zs
      rw [hz] at c46
      have hand : bits .andNot .u8 z 3 = z / 4 * 4 := u8_andNot3 z hzb.1 hzb.2
      have hor : bits .or .u8 (z / 4 * 4) (n / 256) = z / 4 * 4 + n / 256 := u8_or_plus 2 (z / 4) (n / 256) (by omega) (by omega) (by omega) (by omega) (by omega)
      have hm : n / 256 % 256 = n / 256 := by omega
      have ht := t10_shift hl hb
      rw [hn] at ht
      have HT := Lib.hid ht
      have HN := Lib.hid hn
      have HZ := Lib.hid hz
      have HL := Lib.hid hl
      have HS : (zs.set 46 (z / 4 * 4 + n / 256)).set 47 (n % 256) = sealZ zs := by unfold sealZ; rw [hz, hn]
      clear ht hn hz hl hall
      go_wp2_with (first | (go_at_call 127; (with_reducible refine (ten_at (H0.below ?hq)).mono ?_); (case hq => (repeat' (first | (with_reducible exact Below.refl _ _) | (with_reducible assumption) | (with_reducible refine below_drewN ?_ _) | (with_reducible refine Below.drew ?_) | ((with_reducible refine Below.alloc ?_ ?_ _); (rotate_left; focus (first | omega | (simp; done) | (simp; omega)))) | ((with_reducible refine Below.setCell ?_ ?_ _); (rotate_left; focus (first | omega | (simp; done) | (simp; omega)))) | (with_reducible refine Below.grown ?_ (by assumption) (by first | omega | (simp; omega)) (by simp [Value.ownBlock]; try omega)) | (with_reducible refine below_then ?_ (Aft.below _)) | (with_reducible apply below_then; rotate_left; assumption)))); rw [HT.out]; rintro e wt ⟨rfl, hb_wt⟩; obtain ⟨hc_wt, hf_wt⟩ := bcell hb_wt; have hs_wt := hb_wt.size; (try simp at hs_wt); (try have h1_wt : w.heap.size < wt.heap.size := by omega); (try have h3_wt : w.heap.size < wt.heap.size + 1 := by omega); (try have h4_wt : w.heap.size < wt.heap.size + 1 + 1 := by omega); (try have h5_wt : ¬ w.heap.size = wt.heap.size := by omega); have Z1 : BytesAt wt (some ⟨w.heap.size, 0, none⟩) 48 zs := Z0.below (by (repeat' (first | (with_reducible exact Below.refl _ _) | (with_reducible assumption) | (with_reducible refine below_drewN ?_ _) | (with_reducible refine Below.drew ?_) | ((with_reducible refine Below.alloc ?_ ?_ _); (rotate_left; focus (first | omega | (simp; done) | (simp; omega)))) | ((with_reducible refine Below.setCell ?_ ?_ _); (rotate_left; focus (first | omega | (simp; done) | (simp; omega)))) | (with_reducible refine Below.grown ?_ (by assumption) (by first | omega | (simp; omega)) (by simp [Value.ownBlock]; try omega)) | (with_reducible refine below_then ?_ (Aft.below _)) | (with_reducible apply below_then; rotate_left; assumption)))); have T1 : BytesAt wt (some ⟨w.heap.size + 1, 0, none⟩) 48 (List.replicate 48 0) := T0.below (by (repeat' (first | (with_reducible exact Below.refl _ _) | (with_reducible assumption) | (with_reducible refine below_drewN ?_ _) | (with_reducible refine Below.drew ?_) | ((with_reducible refine Below.alloc ?_ ?_ _); (rotate_left; focus (first | omega | (simp; done) | (simp; omega)))) | ((with_reducible refine Below.setCell ?_ ?_ _); (rotate_left; focus (first | omega | (simp; done) | (simp; omega)))) | (with_reducible refine Below.grown ?_ (by assumption) (by first | omega | (simp; omega)) (by simp [Value.ownBlock]; try omega)) | (with_reducible refine below_then ?_ (Aft.below _)) | (with_reducible apply below_then; rotate_left; assumption)))); have FT1 : ∀ o, wt.frozen? ⟨w.heap.size + 1, o, none⟩ = false := (fun o => (hf_wt _ _ (by omega)).trans (FT o))) | (refine wpList_load_mid (cs := u8s ((zs.set 46 (z / 4 * 4 + n / 256)).set 47 (n % 256))) ?lgd 24 (.tmp 1) ?lho w.heap.size 0 ?lhx _ ?lr und48 ?lhd ?lhi ?_; (case lho => rfl); (case lgd => rfl); (case lhx => rfl); (case lr => (refine BytesAt.range (n := 48) ?_; (repeat (first | (with_reducible assumption) | (with_reducible refine BytesAt.drew ?_) | (with_reducible refine BytesAt.drewN ?_ _) | ((with_reducible refine BytesAt.setOther ?_ ?_); (rotate_left; focus (intro b off e; injection e with e; injection e with e1; omega))) | ((with_reducible refine BytesAt.set ?_ ?_ ?_ ?_); (rotate_left; (focus (omega)); (focus (omega)); (focus (omega)))))))); (case lhd => rfl); (case lhi => (rw [siz48]; simp; exact HL.out.symm)); rw [HS]) | (refine wpList_store_mid (cells := (u8s (sealZ zs)).toArray) ?sgd 24 (.tmp 2) (.tmp 36) ?sho (w.heap.size + 1) 0 ?shx ?shy ?sht ?shi (one_u8s _) ?_; (case sho => rfl); (case sgd => rfl); (case shx => rfl); (case shy => rfl); (case sht => ((have h48 : (u8s (sealZ zs)).toArray.size = 48 := by (simp; rw [sealZ_len]; exact HL.out)); rw [h48]; refine BytesAt.thereAt (zs := List.replicate 48 0) ?_ ?_; (focus (repeat (first | (with_reducible assumption) | (with_reducible refine BytesAt.drew ?_) | (with_reducible refine BytesAt.drewN ?_ _) | ((with_reducible refine BytesAt.setOther ?_ ?_); (rotate_left; focus (intro b off e; injection e with e; injection e with e1; omega))) | ((with_reducible refine BytesAt.set ?_ ?_ ?_ ?_); (rotate_left; (focus (omega)); (focus (omega)); (focus (omega))))))); (focus (intro o; (repeat (first | (with_reducible assumption) | (with_reducible refine frozen_drew ?_) | (with_reducible refine frozen_drewN _ ?_) | (with_reducible refine frozen_setCell ?_) | (with_reducible apply_assumption))))))); (case shi => (rw [siz48]; simp; rw [sealZ_len]; exact HL.out.symm))))
      have hlz : (sealZ zs).length = 48 := by rw [sealZ_len]; exact HL.out
      refine bodyPost_ret (results_c1 rfl _ _ rfl (run_loadVar_mid _ _ _ _ (u8s (sealZ zs)) _ (World.rangeAt_setCells_same _ _ _ _ ?_) und48 rfl ?_)) rfl ⟨rfl, ?_⟩
      · rw [show (u8s (sealZ zs)).length = 48 by simp [hlz]]
        refine BytesAt.thereAt (zs := List.replicate 48 0) ?_ ?_
        · (repeat (first | (with_reducible assumption) | (with_reducible refine BytesAt.drew ?_) | (with_reducible refine BytesAt.drewN ?_ _) | ((with_reducible refine BytesAt.setOther ?_ ?_); (rotate_left; focus (intro b off e; injection e with e; injection e with e1; omega))) | ((with_reducible refine BytesAt.set ?_ ?_ ?_ ?_); (rotate_left; (focus (omega)); (focus (omega)); (focus (omega))))))
        · (intro o; (repeat (first | (with_reducible assumption) | (with_reducible refine frozen_drew ?_) | (with_reducible refine frozen_drewN _ ?_) | (with_reducible refine frozen_setCell ?_) | (with_reducible apply_assumption))))
      · rw [siz48]; simp [hlz]
      · refine Below.setCells _ _ ?_ (by omega)
        (repeat' (first | (with_reducible exact Below.refl _ _) | (with_reducible assumption) | (with_reducible refine below_drewN ?_ _) | (with_reducible refine Below.drew ?_) | ((with_reducible refine Below.alloc ?_ ?_ _); (rotate_left; focus (first | omega | (simp; done) | (simp; omega)))) | ((with_reducible refine Below.setCell ?_ ?_ _); (rotate_left; focus (first | omega | (simp; done) | (simp; omega)))) | (with_reducible refine Below.grown ?_ (by assumption) (by first | omega | (simp; omega)) (by simp [Value.ownBlock]; try omega)) | (with_reducible refine below_then ?_ (Aft.below _)) | (with_reducible apply below_then; rotate_left; assumption)))
end Go.Proofs.YtaoagbnhomjkpaaGreat

/- The walks of the layer 'header'. -/
namespace Go.Proofs.YtaoagbnhomjkpaaGreat
set_option linter.unusedVariables false
set_option linter.unusedSimpArgs false
open Go.RowKit
set_option maxRecDepth 100000
set_option maxHeartbeats 4000000
theorem results_cell {P : Program} {fn : Func} {p : Tmp} {ty : TypeId} (h : fn.results = #[.cell p ty]) (tmps : Array Value) (w : World) {a : Addr} {v : Value} (hp : tmps.getD p undef = .pointer (some a)) (hl : (loadVar ty a).run P w = .ok v w) :
    (results fn tmps).run P w = .ok v w := by
  have hp' : tmps[p]?.getD undef = .pointer (some a) := by simpa using hp
  simp [results, h, hp', asAddr, hl]
theorem blk_new (w : World) (o : Obj) : (w.alloc o).heap[w.heap.size]? = some o := heap_alloc_new w o
theorem sizes_any (nni : Bool) (w : World) : Calls Tryz.prog 74 #[.bool nni] w fun e w' => e = .returned (.agg #[.int .i64 (if nni then 0 else 4), .int .i64 (if nni then 12 else 8), .int .i64 16, .int .i64 3, .int .i64 1]) ∧ Below w.heap.size w w' := by
  cases nni
  all_goals
    go_enter Tryz.func74, Tryz.ntmps74
    go_wp2
    (try simp only [Exit.inBlock, Exit.then])
    refine bodyPost_ret (results_cell rfl _ _ rfl (v := .agg #[.int .i64 _, .int .i64 _, .int .i64 _, .int .i64 _, .int .i64 _]) ?_) rfl ⟨rfl, by (repeat' (first | exact Below.refl _ _ | assumption | (refine Below.grown ?_ (by assumption) (by first | omega | (simp; omega)) (by simp [Value.ownBlock]; try omega)) | (refine below_drewN ?_ _) | (refine Below.drew ?_) | (refine Below.alloc ?_ (by first | omega | (simp; done) | (simp; omega)) _) | (refine Below.setCell ?_ (by first | omega | (simp; done) | (simp; omega)) _) | (refine below_then ?_ (Aft.below _)) | (apply below_then; rotate_left; assumption)))⟩
    exact run_loadVar_row _ _ _ _ _ _ _ (blk_new _ _) Tryz.underlying185 rfl (by kernel_rfl)
def kindZ (p c t l : Int) : Int :=
  if p = 0 ∧ c = 0 ∧ t = 0 ∧ l = 1 then 2 else if p = 0 ∧ c = 0 ∧ l = 0 then 3 else if c = 0 then 10 else if c = 3 then 4 else if c = 4 then 5 else if c = 6 ∧ t = 6 then 9
  else if t = 4 then 6 else if t = 5 then 7 else if t = 6 then 8 else if t = 7 then 10 else 1
theorem kind_any (g p c t l : Int) (w : World) : Calls Tryz.prog 36 #[.agg #[.int .i64 g, .int .i64 p, .int .i64 c, .int .i64 t, .int .i64 l]] w fun e w' => e = .returned (.int .i64 (kindZ p c t l)) ∧ Below w.heap.size w w' := by
  go_enter Tryz.func36, Tryz.ntmps36
  go_wp2
  all_goals
    go_ret
    refine ⟨ret_int ?_, by (repeat' (first | exact Below.refl _ _ | assumption | (refine Below.grown ?_ (by assumption) (by first | omega | (simp; omega)) (by simp [Value.ownBlock]; try omega)) | (refine below_drewN ?_ _) | (refine Below.drew ?_) | (refine Below.alloc ?_ (by first | omega | (simp; done) | (simp; omega)) _) | (refine Below.setCell ?_ (by first | omega | (simp; done) | (simp; omega)) _) | (refine below_then ?_ (Aft.below _)) | (apply below_then; rotate_left; assumption)))⟩
    unfold kindZ
    simp_all
attribute [irreducible] kindZ
def rightH (nni : Bool) (g p c t l : Int) : Bool :=
  decide (0 ≤ g ∧ g < (if nni then 1 else 16) ∧ 0 ≤ p ∧ p < (if nni then 4096 else 256) ∧ 0 ≤ c ∧ c < 65536 ∧ 0 ≤ t ∧ t < 8 ∧ 0 ≤ l ∧ l < 2)
theorem right_h (g p c t l : Int) (nni : Bool) (w : World) : Calls Tryz.prog 79 #[.agg #[.int .i64 g, .int .i64 p, .int .i64 c, .int .i64 t, .int .i64 l], .bool nni] w fun e w' => e = .returned (.bool (rightH nni g p c t l)) ∧ Below w.heap.size w w' := by
  have i0 : ∀ w, (Instr.index 185 (.agg #[.int .i64 g, .int .i64 p, .int .i64 c, .int .i64 t, .int .i64 l]) (.int .i64 0)).run Tryz.prog w = .ok (.int .i64 g) w := fun _ => by kernel_rfl
  have i1 : ∀ w, (Instr.index 185 (.agg #[.int .i64 g, .int .i64 p, .int .i64 c, .int .i64 t, .int .i64 l]) (.int .i64 1)).run Tryz.prog w = .ok (.int .i64 p) w := fun _ => by kernel_rfl
  have i2 : ∀ w, (Instr.index 185 (.agg #[.int .i64 g, .int .i64 p, .int .i64 c, .int .i64 t, .int .i64 l]) (.int .i64 2)).run Tryz.prog w = .ok (.int .i64 c) w := fun _ => by kernel_rfl
  have i3 : ∀ w, (Instr.index 185 (.agg #[.int .i64 g, .int .i64 p, .int .i64 c, .int .i64 t, .int .i64 l]) (.int .i64 3)).run Tryz.prog w = .ok (.int .i64 t) w := fun _ => by kernel_rfl
  have i4 : ∀ w, (Instr.index 185 (.agg #[.int .i64 g, .int .i64 p, .int .i64 c, .int .i64 t, .int .i64 l]) (.int .i64 4)).run Tryz.prog w = .ok (.int .i64 l) w := fun _ => by kernel_rfl
  cases nni
  all_goals
    go_enter Tryz.func79, Tryz.ntmps79
    go_wp2_with (go_at_call 74; refine (sizes_any _ _).mono ?_; rintro e w' ⟨rfl, hb⟩; obtain ⟨hc, hf⟩ := bcell hb; have hz := hb.size; (try simp at hz); (try have hz1 : w.heap.size < w'.heap.size := by omega); (try have hz2 : w.heap.size + 1 < w'.heap.size := by omega))
    go_step3
    go_wp2_with (go_at_call 74; refine (sizes_any _ _).mono ?_; rintro e w' ⟨rfl, hb⟩; obtain ⟨hc, hf⟩ := bcell hb; have hz := hb.size; (try simp at hz); (try have hz1 : w.heap.size < w'.heap.size := by omega); (try have hz2 : w.heap.size + 1 < w'.heap.size := by omega))
    go_step3
    go_wp2
    refine wp_loop_rounds 6 ?_
    rw [rounds_succ]
    go_wp2
    all_goals try (((try rw [Exit.noGoto_ret]); go_ret; refine ⟨ret_bool ?_, by (repeat' (first | exact Below.refl _ _ | assumption | (refine Below.grown ?_ (by assumption) (by first | omega | (simp; omega)) (by simp [Value.ownBlock]; try omega)) | (refine below_drewN ?_ _) | (refine Below.drew ?_) | (refine Below.alloc ?_ (by first | omega | (simp; done) | (simp; omega)) _) | (refine Below.setCell ?_ (by first | omega | (simp; done) | (simp; omega)) _) | (refine below_then ?_ (Aft.below _)) | (apply below_then; rotate_left; assumption)))⟩; clear i0 i1 i2 i3 i4 hc hf hb hz; simp at *; unfold rightH; simp; omega))
    rw [rounds_succ]
    go_wp2
    all_goals try (((try rw [Exit.noGoto_ret]); go_ret; refine ⟨ret_bool ?_, by (repeat' (first | exact Below.refl _ _ | assumption | (refine Below.grown ?_ (by assumption) (by first | omega | (simp; omega)) (by simp [Value.ownBlock]; try omega)) | (refine below_drewN ?_ _) | (refine Below.drew ?_) | (refine Below.alloc ?_ (by first | omega | (simp; done) | (simp; omega)) _) | (refine Below.setCell ?_ (by first | omega | (simp; done) | (simp; omega)) _) | (refine below_then ?_ (Aft.below _)) | (apply below_then; rotate_left; assumption)))⟩; clear i0 i1 i2 i3 i4 hc hf hb hz; simp at *; unfold rightH; simp; omega))
    rw [rounds_succ]
    go_wp2
    all_goals try (((try rw [Exit.noGoto_ret]); go_ret; refine ⟨ret_bool ?_, by (repeat' (first | exact Below.refl _ _ | assumption | (refine Below.grown ?_ (by assumption) (by first | omega | (simp; omega)) (by simp [Value.ownBlock]; try omega)) | (refine below_drewN ?_ _) | (refine Below.drew ?_) | (refine Below.alloc ?_ (by first | omega | (simp; done) | (simp; omega)) _) | (refine Below.setCell ?_ (by first | omega | (simp; done) | (simp; omega)) _) | (refine below_then ?_ (Aft.below _)) | (apply below_then; rotate_left; assumption)))⟩; clear i0 i1 i2 i3 i4 hc hf hb hz; simp at *; unfold rightH; simp; omega))
    rw [rounds_succ]
    go_wp2
    all_goals try (((try rw [Exit.noGoto_ret]); go_ret; refine ⟨ret_bool ?_, by (repeat' (first | exact Below.refl _ _ | assumption | (refine Below.grown ?_ (by assumption) (by first | omega | (simp; omega)) (by simp [Value.ownBlock]; try omega)) | (refine below_drewN ?_ _) | (refine Below.drew ?_) | (refine Below.alloc ?_ (by first | omega | (simp; done) | (simp; omega)) _) | (refine Below.setCell ?_ (by first | omega | (simp; done) | (simp; omega)) _) | (refine below_then ?_ (Aft.below _)) | (apply below_then; rotate_left; assumption)))⟩; clear i0 i1 i2 i3 i4 hc hf hb hz; simp at *; unfold rightH; simp; omega))
    rw [rounds_succ]
    go_wp2
    all_goals try (((try rw [Exit.noGoto_ret]); go_ret; refine ⟨ret_bool ?_, by (repeat' (first | exact Below.refl _ _ | assumption | (refine Below.grown ?_ (by assumption) (by first | omega | (simp; omega)) (by simp [Value.ownBlock]; try omega)) | (refine below_drewN ?_ _) | (refine Below.drew ?_) | (refine Below.alloc ?_ (by first | omega | (simp; done) | (simp; omega)) _) | (refine Below.setCell ?_ (by first | omega | (simp; done) | (simp; omega)) _) | (refine below_then ?_ (Aft.below _)) | (apply below_then; rotate_left; assumption)))⟩; clear i0 i1 i2 i3 i4 hc hf hb hz; simp at *; unfold rightH; simp; omega))
    rw [rounds_succ]
    go_wp2
    all_goals try (((try rw [Exit.noGoto_ret]); go_ret; refine ⟨ret_bool ?_, by (repeat' (first | exact Below.refl _ _ | assumption | (refine Below.grown ?_ (by assumption) (by first | omega | (simp; omega)) (by simp [Value.ownBlock]; try omega)) | (refine below_drewN ?_ _) | (refine Below.drew ?_) | (refine Below.alloc ?_ (by first | omega | (simp; done) | (simp; omega)) _) | (refine Below.setCell ?_ (by first | omega | (simp; done) | (simp; omega)) _) | (refine below_then ?_ (Aft.below _)) | (apply below_then; rotate_left; assumption)))⟩; clear i0 i1 i2 i3 i4 hc hf hb hz; simp at *; unfold rightH; simp; omega))
    go_goals
end Go.Proofs.YtaoagbnhomjkpaaGreat
