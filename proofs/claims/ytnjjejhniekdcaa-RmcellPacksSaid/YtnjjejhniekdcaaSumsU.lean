/- The plain law of the checks: a burst of bits that are turned over changes them. -/
import Derived.Test.YtnjjejhniekdcaaSumsT
namespace Go.Proofs.Ytnjjejhniekdcaa
set_option linter.unusedVariables false
set_option linter.unusedSimpArgs false
open Go.RowKit Crc
set_option maxRecDepth 100000
/-- bit number j of bytes. -/
def bitF (zs : List Int) (j : Nat) : Bool := bitAt (zs[j / 8]?.getD 0) (j % 8)
theorem bitsL_at : ∀ (zs : List Int) (j : Nat), j < 8 * zs.length → (bitsL zs)[j]? = some (bitF zs j)
  | [], j, h => by simp at h
  | z :: zs, j, h => by
    rw [bitsL_cons]
    by_cases hj : j < 8
    · rw [List.getElem?_append_left (by rw [bit8_len]; exact hj)]
      unfold bit8 bitF
      rw [List.getElem?_map, List.getElem?_range hj, Nat.div_eq_of_lt hj, Nat.mod_eq_of_lt hj]
      rfl
    · rw [List.getElem?_append_right (by rw [bit8_len]; omega), bit8_len, bitsL_at zs (j - 8) (by simp at h; omega)]
      unfold bitF
      have e1 : j / 8 = (j - 8) / 8 + 1 := by omega
      have e2 : j % 8 = (j - 8) % 8 := by omega
      rw [e1, e2, List.getElem?_cons_succ]
theorem bitsL_range (zs : List Int) : bitsL zs = (List.range (8 * zs.length)).map (bitF zs) := by
  apply List.ext_getElem?
  intro j
  by_cases hj : j < 8 * zs.length
  · rw [bitsL_at zs j hj, List.getElem?_map, List.getElem?_range hj]; rfl
  · rw [List.getElem?_eq_none (by rw [bitsL_len]; omega), List.getElem?_eq_none (by simp; omega)]
theorem bitAt_pow (m k : Nat) (hm : m < 8) (hk : k < 8) : bitAt (128 / 2 ^ m) k = (k == m) := by
  have h1 : m = 0 ∨ m = 1 ∨ m = 2 ∨ m = 3 ∨ m = 4 ∨ m = 5 ∨ m = 6 ∨ m = 7 := by omega
  have h2 : k = 0 ∨ k = 1 ∨ k = 2 ∨ k = 3 ∨ k = 4 ∨ k = 5 ∨ k = 6 ∨ k = 7 := by omega
  rcases h1 with rfl | rfl | rfl | rfl | rfl | rfl | rfl | rfl <;> rcases h2 with rfl | rfl | rfl | rfl | rfl | rfl | rfl | rfl <;> rfl
theorem bitAt_zero (k : Nat) : bitAt 0 k = false := by unfold bitAt; rw [Int.zero_ediv]; rfl
theorem bitF_flip {zs : List Int} (hb : allB zs) (k j : Nat) (hj : j < 8 * zs.length) : bitF (flipZ zs k) j = (bitF zs j != (j == k)) := by
  have hq : isB (zs[k / 8]?.getD 0) := by
    by_cases h : k / 8 < zs.length
    · rw [List.getElem?_eq_getElem h]; exact hb _ (List.getElem_mem h)
    · rw [List.getElem?_eq_none (by omega)]; unfold isB; simp
  unfold bitF flipZ
  rw [List.getElem?_set]
  by_cases h : k / 8 = j / 8
  · rw [if_pos h, if_pos (by omega)]
    show bitAt (bits .xor .u8 (zs[k / 8]?.getD 0) (128 / 2 ^ (k % 8))) (j % 8) = _
    rw [bitAt_xor hq (pow_isB _), bitAt_pow _ _ (Nat.mod_lt _ (by decide)) (Nat.mod_lt _ (by decide)), h]
    congr 1
    rw [Bool.eq_iff_iff, beq_iff_eq, beq_iff_eq]
    omega
  · rw [if_neg h]
    have e : (j == k) = false := by rw [beq_eq_false_iff_ne]; intro e; subst e; exact h rfl
    rw [e, Bool.bne_false]
/-- so many bits from bit p on, turned over as b tells. -/
def burstZ (zs : List Int) (p b : Nat) : Nat → List Int
  | 0 => zs
  | i + 1 => if b.testBit i && decide (p + i < 8 * zs.length) then flipZ (burstZ zs p b i) (p + i) else burstZ zs p b i
def burstC (L p b : Nat) : Nat → Bool
  | 0 => false
  | i + 1 => if b.testBit i && decide (p + i < L) then true else burstC L p b i
theorem burst_len (zs : List Int) (p b : Nat) : ∀ n, (burstZ zs p b n).length = zs.length
  | 0 => rfl
  | n + 1 => by
    unfold burstZ
    split
    · rw [flip_len, burst_len zs p b n]
    · exact burst_len zs p b n
theorem burst_B {zs : List Int} (hb : allB zs) (p b : Nat) : ∀ n, allB (burstZ zs p b n)
  | 0 => hb
  | n + 1 => by
    unfold burstZ
    split
    · exact flip_B (burst_B hb p b n) _
    · exact burst_B hb p b n
/-- which bits differ. -/
def diffF (p b n j : Nat) : Bool := decide (p ≤ j) && decide (j < p + n) && b.testBit (j - p)
theorem bitF_burst {zs : List Int} (hb : allB zs) (p b : Nat) : ∀ (n j : Nat), j < 8 * zs.length → bitF (burstZ zs p b n) j = (bitF zs j != diffF p b n j)
  | 0, j, hj => by
    have e : diffF p b 0 j = false := by unfold diffF; simp; omega
    rw [e, Bool.bne_false]; rfl
  | n + 1, j, hj => by
    have ih := bitF_burst hb p b n j hj
    unfold burstZ
    by_cases hjn : j = p + n
    · subst hjn
      have e1 : diffF p b n (p + n) = false := by unfold diffF; simp
      have e2 : diffF p b (n + 1) (p + n) = b.testBit n := by unfold diffF; simp
      rw [e1, Bool.bne_false] at ih
      rw [e2]
      cases ht : b.testBit n
      · simp [ih]
      · rw [if_pos (by simp; exact hj), bitF_flip (burst_B hb p b n) _ _ (by rw [burst_len]; exact hj), ih]
        simp
    · have e : diffF p b (n + 1) j = diffF p b n j := by
        unfold diffF
        have : decide (j < p + (n + 1)) = decide (j < p + n) := by rw [decide_eq_decide]; omega
        rw [this]
      rw [e]
      split
      · rw [bitF_flip (burst_B hb p b n) _ _ (by rw [burst_len]; exact hj), ih]
        have : (j == p + n) = false := by rw [beq_eq_false_iff_ne]; exact hjn
        rw [this, Bool.bne_false]
      · exact ih
def diffL (L p b n : Nat) : List Bool := (List.range L).map (diffF p b n)
theorem bitsL_burst {zs : List Int} (hb : allB zs) (p b n : Nat) : bitsL (burstZ zs p b n) = xorL (bitsL zs) (diffL (8 * zs.length) p b n) := by
  rw [bitsL_range, bitsL_range zs, burst_len]
  unfold xorL diffL
  rw [List.zipWith_map, List.zipWith_self]
  refine List.map_congr_left fun j hj => ?_
  exact bitF_burst hb p b n j (List.mem_range.1 hj)
theorem diffL_window (L p b n : Nat) (hp : p ≤ L) : diffL L p b n = List.replicate p false ++ (List.range (min n (L - p))).map b.testBit ++ List.replicate (L - p - min n (L - p)) false := by
  apply List.ext_getElem?
  intro j
  unfold diffL
  by_cases hj : j < L
  · rw [List.getElem?_map, List.getElem?_range hj]
    by_cases h1 : j < p
    · rw [List.append_assoc, List.getElem?_append_left (by simpa using h1), List.getElem?_replicate, if_pos h1]
      show some (diffF p b n j) = _
      unfold diffF
      rw [decide_eq_false (by omega)]; rfl
    · by_cases h2 : j < p + min n (L - p)
      · rw [List.getElem?_append_left (by simp; omega), List.getElem?_append_right (by simp; omega), List.length_replicate, List.getElem?_map, List.getElem?_range (by omega)]
        show some (diffF p b n j) = some _
        unfold diffF
        rw [decide_eq_true (by omega), decide_eq_true (by omega)]; simp
      · rw [List.getElem?_append_right (by simp; omega), List.getElem?_replicate, if_pos (by simp; omega)]
        show some (diffF p b n j) = _
        unfold diffF
        have : decide (j < p + n) = false := by simp; omega
        rw [this]; simp
  · rw [List.getElem?_eq_none (by simp; omega), List.getElem?_eq_none (by simp; omega)]
theorem burstC_iff (L p b : Nat) : ∀ n, burstC L p b n = true ↔ ∃ j, j < n ∧ b.testBit j = true ∧ p + j < L
  | 0 => by simp [burstC]
  | n + 1 => by
    unfold burstC
    split
    · rename_i h
      simp only [Bool.and_eq_true, decide_eq_true_eq] at h
      exact ⟨fun _ => ⟨n, by omega, h.1, h.2⟩, fun _ => rfl⟩
    · rename_i h
      simp only [Bool.and_eq_true, decide_eq_true_eq, not_and] at h
      rw [burstC_iff L p b n]
      constructor
      · rintro ⟨j, h1, h2⟩; exact ⟨j, by omega, h2⟩
      · rintro ⟨j, h1, h2, h3⟩
        refine ⟨j, ?_, h2, h3⟩
        rcases Nat.lt_or_ge j n with h4 | h4
        · exact h4
        · obtain rfl : j = n := by omega
          exact absurd h3 (h h2)
theorem window_zero (L p b n : Nat) (hp : p ≤ L) : ((List.range (min n (L - p))).map b.testBit = List.replicate ((List.range (min n (L - p))).map b.testBit).length false) ↔ burstC L p b n = false := by
  rw [← Bool.not_eq_true, burstC_iff, List.eq_replicate_iff]
  constructor
  · rintro ⟨_, h⟩ ⟨j, h1, h2, h3⟩
    have := h (b.testBit j) (List.mem_map.2 ⟨j, by simp; omega, rfl⟩)
    rw [h2] at this; cases this
  · intro h
    refine ⟨by simp, fun x hx => ?_⟩
    obtain ⟨j, hj, rfl⟩ := List.mem_map.1 hx
    simp at hj
    cases ht : b.testBit j
    · rfl
    · exact absurd ⟨j, by omega, ht, by omega⟩ h
/-- what a burst does to a register. -/
theorem crc_burst {m : Nat} (g r : BitVec m) (h0 : g.getLsbD 0 = true) {zs : List Int} (hb : allB zs) (p b n : Nat) (hp : p ≤ 8 * zs.length) (hn : n ≤ m) :
    crcV g r (bitsL (burstZ zs p b n)) = crcV g r (bitsL zs) ↔ burstC (8 * zs.length) p b n = false := by
  have e := crcV_xor g (bitsL zs) (diffL (8 * zs.length) p b n) r 0#m (by simp [diffL, bitsL_len])
  rw [BitVec.xor_zero] at e
  rw [bitsL_burst hb, e, ← window_zero (8 * zs.length) p b n hp, ← crcV_window g h0 p (8 * zs.length - p - min n (8 * zs.length - p)) _ (by simp; omega), ← diffL_window (8 * zs.length) p b n hp]
  constructor
  · intro h
    have h2 := congrArg (fun v => crcV g r (bitsL zs) ^^^ v) h
    simpa [← BitVec.xor_assoc] using h2
  · intro h; rw [h, BitVec.xor_zero]
theorem e8_burst {zs : List Int} (hb : allB zs) (p b : Nat) (hp : p ≤ 8 * zs.length) : (e8 (burstZ zs p b 8) != e8 zs) = burstC (8 * zs.length) p b 8 := by
  have h := crc_burst 7#8 0#8 (by decide) hb p b 8 hp (by omega)
  have h1 : (e8 (burstZ zs p b 8) = e8 zs) ↔ c8 (burstZ zs p b 8) = c8 zs := by
    rw [e8_nat, e8_nat]
    constructor
    · intro h
      have h2 : c8 (burstZ zs p b 8) ^^^ 85#8 = c8 zs ^^^ 85#8 := BitVec.eq_of_toNat_eq (by omega)
      have h3 := congrArg (fun v => v ^^^ 85#8) h2
      simpa [BitVec.xor_assoc] using h3
    · intro h; rw [h]
  have h2 : (e8 (burstZ zs p b 8) = e8 zs) ↔ burstC (8 * zs.length) p b 8 = false := h1.trans h
  cases hc : burstC (8 * zs.length) p b 8
  · rw [hc] at h2; simp [h2.2 rfl]
  · rw [hc] at h2; simpa using h2
theorem t10_burst {zs : List Int} (hb : allB zs) (p b : Nat) (hp : p ≤ 8 * zs.length) : (t10 (burstZ zs p b 10) != t10 zs) = burstC (8 * zs.length) p b 10 := by
  have h := crc_burst 563#10 0#10 (by decide) hb p b 10 hp (by omega)
  have h1 : (t10 (burstZ zs p b 10) = t10 zs) ↔ c10 (burstZ zs p b 10) = c10 zs := by
    rw [t10_nat, t10_nat]
    constructor
    · intro h
      exact BitVec.eq_of_toNat_eq (by omega)
    · intro h; rw [h]
  have h2 : (t10 (burstZ zs p b 10) = t10 zs) ↔ burstC (8 * zs.length) p b 10 = false := h1.trans h
  cases hc : burstC (8 * zs.length) p b 10
  · rw [hc] at h2; simp [h2.2 rfl]
  · rw [hc] at h2; simpa using h2
theorem l32_burst {zs : List Int} (hb : allB zs) (p b : Nat) (hp : p ≤ 8 * zs.length) : (l32 (burstZ zs p b 32) != l32 zs) = burstC (8 * zs.length) p b 32 := by
  have h := crc_burst 79764919#32 (BitVec.allOnes 32) (by decide) hb p b 32 hp (by omega)
  have h1 : (l32 (burstZ zs p b 32) = l32 zs) ↔ c32 (burstZ zs p b 32) = c32 zs := by
    rw [l32_nat, l32_nat]
    constructor
    · intro h
      have h2 : ~~~ c32 (burstZ zs p b 32) = ~~~ c32 zs := BitVec.eq_of_toNat_eq (by omega)
      have h3 := congrArg (fun v => ~~~ v) h2
      simpa using h3
    · intro h; rw [h]
  have h2 : (l32 (burstZ zs p b 32) = l32 zs) ↔ burstC (8 * zs.length) p b 32 = false := h1.trans h
  cases hc : burstC (8 * zs.length) p b 32
  · rw [hc] at h2; simp [h2.2 rfl]
  · rw [hc] at h2; simpa using h2
end Go.Proofs.Ytnjjejhniekdcaa
