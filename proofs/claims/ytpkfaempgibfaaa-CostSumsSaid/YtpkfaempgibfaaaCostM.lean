/- Plain words of costs: cells in a unit, and what a contract needs, over the integers. No program is in sight here. -/
import Derived.Test.YtpkfaempgibfaaaContrM
namespace Go.Proofs.Ytpkfaempgibfaaa
set_option linter.unusedVariables false
set_option linter.unusedSimpArgs false
def perZ (s : Int) : Int := if s < 1 then 0 else 1 + 1048575 / s
def upZ (n by' : Int) : Int := (n + by' - 1) / by'
def needZ (k p e wh b l : Int) : Int :=
  if rightZ k p e wh b l ≠ 0 then 0 else if k = 1 then perZ p else if k = 5 then perZ l else if 2 ≤ k ∧ k ≤ 4 then upZ (perZ wh * 4096 + perZ p * b) (b + 4096) else 0
theorem perZ_b (s : Int) : 0 ≤ perZ s ∧ perZ s ≤ 1048576 := by
  unfold perZ
  split
  · omega
  · have h1 := Int.ediv_le_self (a := 1048575) s (by omega)
    have h2 : 0 ≤ 1048575 / s := Int.ediv_nonneg (by omega) (by omega)
    omega
theorem perZ_ref {s : Int} (h : 1 ≤ s) : (1048576 % s > 0 → perZ s = 1048576 / s + 1) ∧ (¬ 1048576 % s > 0 → perZ s = 1048576 / s) := by
  have h1 := Int.mul_ediv_add_emod 1048576 s
  have h2 := Int.emod_nonneg 1048576 (by omega : s ≠ 0)
  have h3 := Int.emod_lt_of_pos 1048576 (by omega : 0 < s)
  unfold perZ
  rw [if_neg (by omega)]
  generalize 1048576 / s = q at *
  generalize 1048576 % s = r at *
  constructor
  · intro h4
    rw [show (1048575 : Int) = (r - 1) + s * q by omega, Int.add_mul_ediv_left _ _ (by omega), Int.ediv_eq_zero_of_lt (by omega) (by omega)]; omega
  · intro h4
    have : r = 0 := by omega
    subst this
    rw [show (1048575 : Int) = (s - 1) + s * (q - 1) by rw [Int.mul_sub]; omega, Int.add_mul_ediv_left _ _ (by omega), Int.ediv_eq_zero_of_lt (by omega) (by omega)]; omega
theorem upZ_ref {n d : Int} (h0 : 0 ≤ n) (h : 1 ≤ d) : (n % d > 0 → upZ n d = n / d + 1) ∧ (¬ n % d > 0 → upZ n d = n / d) := by
  have h1 := Int.mul_ediv_add_emod n d
  have h2 := Int.emod_nonneg n (by omega : d ≠ 0)
  have h3 := Int.emod_lt_of_pos n (by omega : 0 < d)
  unfold upZ
  generalize hq : n / d = q at *
  generalize hr : n % d = r at *
  constructor
  · intro h4
    rw [show n + d - 1 = (r - 1) + d * (q + 1) by rw [Int.mul_add]; omega, Int.add_mul_ediv_left _ _ (by omega), Int.ediv_eq_zero_of_lt (by omega) (by omega)]; omega
  · intro h4
    have : r = 0 := by omega
    subst this
    rw [show n + d - 1 = (d - 1) + d * q by omega, Int.add_mul_ediv_left _ _ (by omega), Int.ediv_eq_zero_of_lt (by omega) (by omega)]; omega
theorem upZ_le {n d c : Int} (h : 1 ≤ d) : upZ n d ≤ c ↔ n ≤ c * d := by
  unfold upZ
  have h1 : (n + d - 1) / d < c + 1 ↔ n + d - 1 < (c + 1) * d := Int.ediv_lt_iff_lt_mul (by omega)
  rw [Int.add_mul, Int.one_mul] at h1
  omega
theorem upZ_ge {n d : Int} (h : 1 ≤ d) : n ≤ upZ n d * d := (upZ_le h).1 (Int.le_refl _)
theorem mul_le {a b c : Int} (h : a ≤ b) (hc : 0 ≤ c) : a * c ≤ b * c := Int.mul_le_mul_of_nonneg_right h hc
/-- what lies between the whole's cells and the peak's. -/
def mixZ (W P b : Int) : Int := upZ (W * 4096 + P * b) (b + 4096)
theorem mix_hi {W P b : Int} (h0 : 0 ≤ b) (h : W ≤ P) : mixZ W P b ≤ P := by
  unfold mixZ
  rw [upZ_le (by omega), Int.mul_add]
  omega
theorem mix_lo {W P b : Int} (h0 : 0 ≤ b) (h : W ≤ P) : W ≤ mixZ W P b := by
  unfold mixZ
  have h1 := upZ_ge (n := W * 4096 + P * b) (d := b + 4096) (by omega)
  generalize upZ (W * 4096 + P * b) (b + 4096) = c at h1
  by_cases hc : c < W
  · have h2 := mul_le (a := c) (b := W - 1) (c := b + 4096) (by omega) (by omega)
    have h3 := mul_le h h0
    rw [Int.sub_mul, Int.mul_add, Int.mul_add] at h2
    rw [Int.mul_add] at h1
    omega
  · omega
theorem mix_mono {W P b W' P' b' : Int} (h0 : 0 ≤ b) (hb : b ≤ b') (hW : W ≤ W') (hP : P ≤ P') (hWP : W' ≤ P') : mixZ W P b ≤ mixZ W' P' b' := by
  have hlo := mix_lo (W := W') (P := P') (b := b') (by omega) hWP
  unfold mixZ at *
  have h1 := upZ_ge (n := W' * 4096 + P' * b') (d := b' + 4096) (by omega)
  generalize upZ (W' * 4096 + P' * b') (b' + 4096) = c at *
  rw [upZ_le (by omega)]
  have h2 := mul_le hP h0
  rw [Int.mul_add] at h1 ⊢
  by_cases hc : c < P'
  · have h3 := mul_le (a := 0) (b := P' - c) (c := b' - b) (by omega) (by omega)
    rw [Int.zero_mul, Int.mul_sub, Int.sub_mul, Int.sub_mul] at h3
    omega
  · have h3 := mul_le (a := P') (b := c) (c := b) (by omega) h0
    omega
theorem mix_zero (W P : Int) : mixZ W P 0 = W := by
  unfold mixZ upZ
  omega
theorem mix_half (W P : Int) : mixZ W P 4096 = (P + W + 1) / 2 := by
  unfold mixZ upZ
  omega
theorem perZ_anti {a b : Int} (h0 : 1 ≤ a) (h : a ≤ b) : perZ b ≤ perZ a := by
  unfold perZ
  rw [if_neg (by omega), if_neg (by omega)]
  have h1 : 1048575 / b * b ≤ 1048575 := Int.ediv_mul_le _ (by omega)
  have h2 : 0 ≤ 1048575 / b := Int.ediv_nonneg (by omega) (by omega)
  have h3 : 1048575 / b ≤ 1048575 / a := by
    rw [Int.le_ediv_iff_mul_le (by omega)]
    have : 1048575 / b * a ≤ 1048575 / b * b := Int.mul_le_mul_of_nonneg_left h h2
    omega
  omega
theorem perZ_spec {x : Int} (h : 1 ≤ x) : 1 ≤ perZ x ∧ (1048576 < x → perZ x = 1) ∧ 1048576 ≤ perZ x * x ∧ (perZ x - 1) * x < 1048576 ∧ 0 ≤ (perZ x - 1) * x ∧ (x ≤ 1048576 → perZ x * x ≤ 2097152) := by
  unfold perZ
  rw [if_neg (by omega)]
  have h1 : 1048575 / x * x ≤ 1048575 := Int.ediv_mul_le _ (by omega)
  have h2 : 0 ≤ 1048575 / x := Int.ediv_nonneg (by omega) (by omega)
  have h3 : 1048575 < (1048575 / x + 1) * x := Int.lt_ediv_add_one_mul_self _ (by omega)
  have h4 : 0 ≤ 1048575 / x * x := Int.mul_nonneg h2 (by omega)
  have h5 : 1048576 < x → 1048575 / x = 0 := fun h => Int.ediv_eq_zero_of_lt (by omega) (by omega)
  rw [show 1 + 1048575 / x - 1 = 1048575 / x by omega, show 1 + 1048575 / x = 1048575 / x + 1 by omega]
  rw [Int.add_mul] at h3 ⊢
  omega
theorem needZ_vbr {k p e wh b l : Int} (h : FineP k p e wh b l) (hk : 2 ≤ k ∧ k ≤ 4) : needZ k p e wh b l = mixZ (perZ wh) (perZ p) b := by
  unfold needZ mixZ
  rw [if_neg (by rw [rightZ_zero.2 h]; omega), if_neg (by omega), if_neg (by omega), if_pos hk]
theorem needZ_bad {k p e wh b l : Int} (h : ¬ rightZ k p e wh b l = 0) : needZ k p e wh b l = 0 := by unfold needZ; rw [if_pos h]
theorem needZ_b (k p e wh b l : Int) (h : FineP k p e wh b l) : 0 ≤ needZ k p e wh b l ∧ needZ k p e wh b l ≤ perZ p := by
  by_cases hk : 2 ≤ k ∧ k ≤ 4
  · rw [needZ_vbr h hk]
    have h1 : 1 ≤ p ∧ p ≤ wh ∧ 0 ≤ b := by unfold FineP at h; omega
    have h2 := perZ_anti h1.1 h1.2.1
    have h3 := mix_hi h1.2.2 h2
    have h4 := mix_lo h1.2.2 h2
    have := perZ_b wh
    omega
  · have hp := perZ_b p
    have hl := perZ_b l
    have h5 : k = 5 → perZ l ≤ perZ p := fun hk => by
      have : 1 ≤ p ∧ (l = 0 ∨ p ≤ l) := by unfold FineP at h; omega
      rcases this.2 with h6 | h6
      · have : perZ l = 0 := by unfold perZ; rw [if_pos (by omega)]
        omega
      · exact perZ_anti this.1 h6
    unfold needZ
    rw [if_neg (by rw [rightZ_zero.2 h]; omega)]
    split
    · omega
    · split
      · omega
      · omega
theorem needZ_le (k p e wh b l : Int) : 0 ≤ needZ k p e wh b l ∧ needZ k p e wh b l ≤ 1048576 := by
  by_cases h : rightZ k p e wh b l = 0
  · have := needZ_b k p e wh b l (rightZ_zero.1 h)
    have := perZ_b p
    omega
  · rw [needZ_bad h]; omega
/-- what allows no more needs no more. -/
theorem needZ_mono {k p e wh b l p' e' wh' b' : Int} (h : FineP k p e wh b l) (h' : FineP k p' e' wh' b' l) (hp : p' ≤ p) (hw : wh' ≤ wh) (hb : b ≤ b') : needZ k p e wh b l ≤ needZ k p' e' wh' b' l := by
  have h0 : 1 ≤ p' := by unfold FineP at h'; omega
  have a := perZ_anti h0 hp
  by_cases hk : 2 ≤ k ∧ k ≤ 4
  · rw [needZ_vbr h hk, needZ_vbr h' hk]
    have h1 : 1 ≤ p' ∧ p' ≤ wh' ∧ 0 ≤ b := by unfold FineP at h h'; omega
    exact mix_mono h1.2.2 hb (perZ_anti (by omega) hw) a (perZ_anti h1.1 h1.2.1)
  · have e1 : ¬ rightZ k p e wh b l ≠ 0 := by rw [rightZ_zero.2 h]; omega
    have e2 : ¬ rightZ k p' e' wh' b' l ≠ 0 := by rw [rightZ_zero.2 h']; omega
    unfold needZ
    rw [if_neg e1, if_neg e2]
    by_cases k1 : k = 1
    · rw [if_pos k1, if_pos k1]; exact a
    · rw [if_neg k1, if_neg k1]
      by_cases k5 : k = 5
      · rw [if_pos k5, if_pos k5]; exact Int.le_refl _
      · rw [if_neg k5, if_neg k5, if_neg hk, if_neg hk]; exact Int.le_refl _
attribute [irreducible] perZ upZ needZ mixZ
end Go.Proofs.Ytpkfaempgibfaaa
