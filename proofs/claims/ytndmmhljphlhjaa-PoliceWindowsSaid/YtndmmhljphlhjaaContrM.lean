/- Plain words of contracts: what is wrong with one, over the integers. No program is in sight here. -/
namespace Go.Proofs.Ytndmmhljphlhjaa
set_option linter.unusedVariables false
set_option linter.unusedSimpArgs false
/-- from a number on to the longest span. -/
def spanZ (n least : Int) : Bool := decide (least ≤ n ∧ n ≤ 1099511627776)
/-- what is right with a contract of six numbers. -/
def FineP (k p e wh b l : Int) : Prop :=
  (1 ≤ p ∧ p ≤ 1099511627776 ∧ 0 ≤ e ∧ e ≤ 1099511627776) ∧
  (2 ≤ k ∧ k ≤ 4 ∧ p ≤ wh ∧ wh ≤ 1099511627776 ∧ 0 ≤ b ∧ b ≤ 1099511627776 ∧ l = 0 ∨
   k = 5 ∧ wh = 0 ∧ b = 0 ∧ (l = 0 ∨ p ≤ l ∧ l ≤ 1099511627776) ∨
   (k = 1 ∨ k = 6 ∨ k = 7) ∧ wh = 0 ∧ b = 0 ∧ l = 0)
instance (k p e wh b l : Int) : Decidable (FineP k p e wh b l) := by unfold FineP; exact inferInstance
def rightZ (k p e wh b l : Int) : Int := if k < 1 ∨ 7 < k then 12 else if FineP k p e wh b l then 0 else 11
theorem rightZ_of {k p e wh b l r : Int} (h : (k < 1 ∨ 7 < k) ∧ r = 12 ∨ ¬ (k < 1 ∨ 7 < k) ∧ (FineP k p e wh b l ∧ r = 0 ∨ ¬ FineP k p e wh b l ∧ r = 11)) : r = rightZ k p e wh b l := by
  unfold rightZ
  rcases h with ⟨h, rfl⟩ | ⟨h, ⟨h', rfl⟩ | ⟨h', rfl⟩⟩
  · rw [if_pos h]
  · rw [if_neg h, if_pos h']
  · rw [if_neg h, if_neg h']
theorem rightZ_zero {k p e wh b l : Int} : rightZ k p e wh b l = 0 ↔ FineP k p e wh b l := by
  unfold rightZ
  constructor
  · intro h
    split at h
    · omega
    · split at h
      · assumption
      · omega
  · intro h
    have : ¬ (k < 1 ∨ 7 < k) := by unfold FineP at h; omega
    rw [if_neg this, if_pos h]
theorem rightZ_or (k p e wh b l : Int) : rightZ k p e wh b l = 0 ∨ rightZ k p e wh b l = 11 ∨ rightZ k p e wh b l = 12 := by
  unfold rightZ
  split
  · omega
  · split <;> omega
theorem rightZ_kind {k p e wh b l : Int} : rightZ k p e wh b l = 12 ↔ (k < 1 ∨ 7 < k) := by
  unfold rightZ
  split
  · simp; assumption
  · split <;> simp <;> omega
attribute [irreducible] spanZ rightZ
end Go.Proofs.Ytndmmhljphlhjaa
