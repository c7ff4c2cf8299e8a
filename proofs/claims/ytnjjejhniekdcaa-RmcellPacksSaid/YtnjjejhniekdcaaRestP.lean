/- The plain law of the reference's remainder: a division of polynomials is a register behind bits. -/
import Derived.Test.YtnjjejhniekdcaaSumsP
namespace Go.Proofs.Ytnjjejhniekdcaa.Crc
set_option linter.unusedVariables false
set_option linter.unusedSimpArgs false
variable {d : Nat}
/-- the text, with 0s behind it. -/
def msgF (bs : List Bool) (q : Nat) : Bool := bs[q]?.getD false
/-- what stands in the row when i bits are divided. -/
def divF (g r : BitVec d) (bs : List Bool) (i q : Nat) : Bool :=
  if q < i then false else if q < i + d then ((crcV g r (bs.take i)).getMsbD (q - i) != msgF bs q) else msgF bs q
/-- the generator, its highest bit ahead. -/
def genF (g : BitVec d) (k : Nat) : Bool := if k = 0 then true else g.getMsbD (k - 1)
theorem msbD_step (g r : BitVec d) (b : Bool) (j : Nat) (hj : j < d) : (stepV g r b).getMsbD j = (r.getMsbD (j + 1) != ((r.getMsbD 0 != b) && g.getMsbD j)) := by
  unfold stepV
  have h0 : r.msb = r.getMsbD 0 := by simp [BitVec.msb]
  rw [BitVec.getMsbD_xor, BitVec.getMsbD_shiftLeft, h0, Nat.add_comm j 1, Nat.add_comm 1 j]
  cases hc : (r.getMsbD 0 != b)
  · simp
  · simp
theorem divF_lt (g r : BitVec d) (bs : List Bool) {i q : Nat} (h : q < i) : divF g r bs i q = false := by unfold divF; rw [if_pos h]
theorem divF_mid (g r : BitVec d) (bs : List Bool) {i q : Nat} (h : i ≤ q) (h2 : q < i + d) : divF g r bs i q = ((crcV g r (bs.take i)).getMsbD (q - i) != msgF bs q) := by
  unfold divF; rw [if_neg (by omega), if_pos h2]
theorem divF_hi (g r : BitVec d) (bs : List Bool) {i q : Nat} (h : i + d ≤ q) : divF g r bs i q = msgF bs q := by
  unfold divF; rw [if_neg (by omega), if_neg (by omega)]
theorem genF_pos (g : BitVec d) {k : Nat} (h : 0 < k) : genF g k = g.getMsbD (k - 1) := by unfold genF; rw [if_neg (by omega)]
theorem divF_at (g r : BitVec d) (bs : List Bool) (i : Nat) (hd : 0 < d) : divF g r bs i i = ((crcV g r (bs.take i)).getMsbD 0 != msgF bs i) := by
  unfold divF
  rw [if_neg (by omega), if_pos (by omega), Nat.sub_self]
theorem take_step (bs : List Bool) (i : Nat) (hi : i < bs.length) (g r : BitVec d) : crcV g r (bs.take (i + 1)) = stepV g (crcV g r (bs.take i)) (msgF bs i) := by
  rw [List.take_succ_eq_append_getElem hi, crcV_append]
  unfold msgF
  rw [List.getElem?_eq_getElem hi]
  rfl
/-- a bit that is set: the generator is taken away. -/
theorem divF_set (g r : BitVec d) (bs : List Bool) (i q : Nat) (hd : 0 < d) (hi : i < bs.length) (h : divF g r bs i i = true) :
    divF g r bs (i + 1) q = (divF g r bs i q != (decide (i ≤ q) && decide (q < i + (d + 1)) && genF g (q - i))) := by
  have h' := h
  rw [divF_at g r bs i hd] at h
  by_cases h1 : q < i
  · rw [divF_lt g r bs (by omega : q < i + 1), divF_lt g r bs h1, decide_eq_false (by omega : ¬ i ≤ q)]; rfl
  · by_cases h2 : q = i
    · subst h2
      rw [divF_lt g r bs (by omega : q < q + 1), h', decide_eq_true (by omega : q ≤ q), decide_eq_true (by omega : q < q + (d + 1)), Nat.sub_self]
      rfl
    · rw [decide_eq_true (by omega : i ≤ q), Bool.true_and]
      have e : q - (i + 1) + 1 = q - i := by omega
      have e2 : q - (i + 1) = q - i - 1 := by omega
      by_cases h3 : q < i + (d + 1)
      · rw [divF_mid g r bs (by omega : i + 1 ≤ q) (by omega), take_step bs i hi, decide_eq_true h3, Bool.true_and, msbD_step g _ _ _ (by omega), h, Bool.true_and, genF_pos g (by omega), e, e2]
        by_cases h4 : q < i + d
        · rw [divF_mid g r bs (by omega : i ≤ q) h4]
          generalize BitVec.getMsbD _ (q - i) = x
          generalize msgF bs q = y
          generalize g.getMsbD (q - i - 1) = z
          cases x <;> cases y <;> cases z <;> rfl
        · rw [divF_hi g r bs (by omega : i + d ≤ q)]
          have e3 : q - i = d := by omega
          rw [e3, BitVec.getMsbD_of_ge _ _ (Nat.le_refl _)]
          generalize msgF bs q = y
          generalize g.getMsbD (d - 1) = z
          cases y <;> cases z <;> rfl
      · rw [divF_hi g r bs (by omega : i + 1 + d ≤ q), divF_hi g r bs (by omega : i + d ≤ q), decide_eq_false h3, Bool.false_and, Bool.bne_false]
theorem divF_clear (g r : BitVec d) (bs : List Bool) (i q : Nat) (hd : 0 < d) (hi : i < bs.length) (h : divF g r bs i i = false) : divF g r bs (i + 1) q = divF g r bs i q := by
  have h' := h
  rw [divF_at g r bs i hd] at h
  by_cases h2 : q = i
  · subst h2
    rw [h', divF_lt g r bs (by omega : q < q + 1)]
  · by_cases h1 : q < i
    · rw [divF_lt g r bs (by omega : q < i + 1), divF_lt g r bs h1]
    · by_cases h3 : q < i + (d + 1)
      · rw [divF_mid g r bs (by omega : i + 1 ≤ q) (by omega), take_step bs i hi, msbD_step g _ _ _ (by omega), h, Bool.false_and, Bool.bne_false]
        have e : q - (i + 1) + 1 = q - i := by omega
        rw [e]
        by_cases h4 : q < i + d
        · rw [divF_mid g r bs (by omega : i ≤ q) h4]
        · rw [divF_hi g r bs (by omega : i + d ≤ q)]
          have e3 : q - i = d := by omega
          rw [e3, BitVec.getMsbD_of_ge _ _ (Nat.le_refl _), Bool.false_bne]
      · rw [divF_hi g r bs (by omega : i + 1 + d ≤ q), divF_hi g r bs (by omega : i + d ≤ q)]
theorem divF_zero (g : BitVec d) (bs : List Bool) (q : Nat) : divF g 0#d bs 0 q = msgF bs q := by
  unfold divF
  rw [if_neg (by omega)]
  split
  · simp [crcV]
  · rfl
theorem divF_ones (g : BitVec d) (bs : List Bool) (q : Nat) : divF g (BitVec.allOnes d) bs 0 q = (if q < d then !msgF bs q else msgF bs q) := by
  unfold divF
  rw [if_neg (by omega), Nat.zero_add]
  split
  · rename_i h
    have e : (BitVec.allOnes d).getMsbD q = true := by rw [BitVec.getMsbD_eq_getLsbD]; simp [h]; omega
    show ((BitVec.allOnes d).getMsbD (q - 0) != _) = _
    rw [Nat.sub_zero, e, Bool.true_bne]
  · rfl
theorem divF_end (g r : BitVec d) (bs : List Bool) (j : Nat) (hj : j < d) : divF g r bs bs.length (bs.length + j) = (crcV g r bs).getMsbD j := by
  unfold divF
  rw [if_neg (by omega), if_pos (by omega), List.take_length]
  have e : msgF bs (bs.length + j) = false := by unfold msgF; rw [List.getElem?_eq_none (by omega)]; rfl
  rw [e, Bool.bne_false]
  congr 1; omega
/-- the first j bits of a register, as a number. -/
def topN (v : BitVec d) (j : Nat) : Nat := v.toNat / 2 ^ (d - j)
theorem topN_zero (v : BitVec d) : topN v 0 = 0 := by unfold topN; exact Nat.div_eq_of_lt v.isLt
theorem topN_all (v : BitVec d) : topN v d = v.toNat := by unfold topN; rw [Nat.sub_self, Nat.pow_zero, Nat.div_one]
theorem topN_succ (v : BitVec d) (j : Nat) (hj : j < d) : topN v (j + 1) = 2 * topN v j + (v.getMsbD j).toNat := by
  unfold topN
  have e : d - j = (d - (j + 1)) + 1 := by omega
  rw [e, Nat.pow_succ, ← Nat.div_div_eq_div_mul]
  have h : (v.getMsbD j).toNat = v.toNat / 2 ^ (d - (j + 1)) % 2 := by
    rw [BitVec.getMsbD_eq_getLsbD]
    have : d - 1 - j = d - (j + 1) := by omega
    rw [decide_eq_true hj, Bool.true_and, this]
    show (v.toNat.testBit (d - (j + 1))).toNat = _
    rw [Nat.toNat_testBit]
  rw [h]
  omega
theorem topN_lt (v : BitVec d) (j : Nat) : topN v j ≤ v.toNat := Nat.div_le_self _ _
theorem gen_bit (g : BitVec d) (t : Nat) (ht : t < d) : (genF g (t + 1)).toNat = g.toNat / 2 ^ (d - 1 - t) % 2 := by
  unfold genF
  rw [if_neg (by omega), Nat.add_sub_cancel, BitVec.getMsbD_eq_getLsbD, decide_eq_true ht, Bool.true_and]
  show (g.toNat.testBit (d - 1 - t)).toNat = _
  rw [Nat.toNat_testBit]
end Go.Proofs.Ytnjjejhniekdcaa.Crc
