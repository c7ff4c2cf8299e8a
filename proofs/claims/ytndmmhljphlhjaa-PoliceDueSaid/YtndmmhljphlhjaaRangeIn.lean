/- Inside a round: a region that draws its order, operation by operation. -/
import Derived.Test.YtndmmhljphlhjaaPolV
namespace Go.Proofs.Ytndmmhljphlhjaa
set_option linter.unusedVariables false
set_option linter.unusedSimpArgs false
open Go.RowKit Go.Shelf
set_option maxRecDepth 100000
set_option maxHeartbeats 4000000
attribute [local go_sem] Oper.semAt_some
section
variable {F : Fence} {n : Nat} {P : Program} {ops : Array Oper} {md : Region.Mode} {Q : Exit → Act → World → Prop}
/-- on, without a panic. -/
def OnlyIn (K : Act → World → Prop) : Exit → Act → World → Prop := fun e a w => e = .normal ∧ K a w
theorem oper_of_listIn {o : Oper} {a : Act} {w : World} {K : Act → World → Prop} (hg : o.guard = none) (h : wpListIn F n P ops (OnlyIn K) [o] a w) : o.wpIn F n P a w K Q := by
  unfold wpListIn at h
  rw [if_pos (by unfold Region.wanted; rw [hg])] at h
  unfold Oper.wpIn at *
  refine ⟨h.1, ?_⟩
  have h := h.2
  generalize (o.semAt F.round a.eval).run P w = r at *
  have lo : ¬ LetsOut (OnlyIn K) := by
    rintro ⟨_, _, h, _⟩; cases h
  cases r with
  | ok x w' =>
    cases x <;> simp only [Oper.uponIn] at h ⊢
    case value v => exact h.2
    case skip => exact h.2
    case defer d => exact h.2
    case enter f args => exact ⟨h.1, CallsIn.mono h.2 (fun e w'' he => by
      cases e with
      | returned v => exact he.2
      | panicked c => cases he.1
      | outgrown => exact (lo he).elim)⟩
    case row row args => exact ⟨h.1, RowsIn.mono h.2 (fun _ _ he => he.2)⟩
    case round => exact ⟨h.1, RoundIn.mono h.2 (fun e w'' he => by
      cases e with
      | returned v => exact he.2
      | panicked c => cases he.1
      | outgrown => exact (lo he).elim)⟩
  | halt x w' =>
    cases x <;> simp only [Oper.uponIn] at h ⊢
    case panic v => cases h.1
theorem anyIn_one {i fuel : Nat} {o : Oper} {listed : Array Bool} {a : Act} {w : World} (hr : Region.ready md ops listed = [i]) (ho : ops[i]? = some o) (hg : o.guard = none)
    (h : wpListIn F n P ops (OnlyIn (wpAnyIn F n P md ops Q fuel (listed.setIfInBounds i true))) [o] a w) : wpAnyIn F n P md ops Q (fuel + 1) listed a w := by
  refine ⟨(fun e => by rw [hr] at e; cases e), fun j hj => ?_⟩
  rw [hr] at hj
  obtain rfl : j = i := by simpa using hj
  unfold wpOpIn
  simp only [ho]
  rw [if_pos (by unfold Region.wanted; rw [hg])]
  exact oper_of_listIn hg h
theorem anyIn_two {i k fuel : Nat} {o o' : Oper} {listed : Array Bool} {a : Act} {w : World} (hr : Region.ready md ops listed = [i, k]) (ho : ops[i]? = some o) (hg : o.guard = none) (ho' : ops[k]? = some o') (hg' : o'.guard = none)
    (h : wpListIn F n P ops (OnlyIn (wpAnyIn F n P md ops Q fuel (listed.setIfInBounds i true))) [o] a w)
    (h' : wpListIn F n P ops (OnlyIn (wpAnyIn F n P md ops Q fuel (listed.setIfInBounds k true))) [o'] a w) : wpAnyIn F n P md ops Q (fuel + 1) listed a w := by
  refine ⟨(fun e => by rw [hr] at e; cases e), fun j hj => ?_⟩
  rw [hr] at hj
  simp only [List.mem_cons, List.not_mem_nil, or_false] at hj
  rcases hj with rfl | rfl
  · unfold wpOpIn
    simp only [ho]
    rw [if_pos (by unfold Region.wanted; rw [hg])]
    exact oper_of_listIn hg h
  · unfold wpOpIn
    simp only [ho']
    rw [if_pos (by unfold Region.wanted; rw [hg'])]
    exact oper_of_listIn hg' h'
end
end Go.Proofs.Ytndmmhljphlhjaa
