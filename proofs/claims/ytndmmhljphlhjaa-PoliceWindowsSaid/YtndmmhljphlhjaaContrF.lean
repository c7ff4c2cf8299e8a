/- The walk of 'Fewer' of the layer 'contract'. -/
import Derived.Test.YtndmmhljphlhjaaContrW
import Derived.Test.YtndmmhljphlhjaaKit2
namespace Go.Proofs.Ytndmmhljphlhjaa
set_option linter.unusedVariables false
set_option linter.unusedSimpArgs false
open Go.RowKit
set_option maxRecDepth 100000
set_option maxHeartbeats 4000000
def fewZ (k p e wh b l k' p' e' wh' b' l' : Int) : Bool :=
  decide (rightZ k p e wh b l = 0 ∧ rightZ k' p' e' wh' b' l' = 0 ∧ k = k' ∧ l = l' ∧ p' ≤ p ∧ wh' ≤ wh ∧ e ≤ e' ∧ b ≤ b')
theorem fewer_any (k p e wh b l k' p' e' wh' b' l' : Int) (w : World) :
    Calls Try.prog 17 #[.agg #[.int .i64 k, .int .i64 p, .int .i64 e, .int .i64 wh, .int .i64 b, .int .i64 l], .agg #[.int .i64 k', .int .i64 p', .int .i64 e', .int .i64 wh', .int .i64 b', .int .i64 l']] w
      fun en w' => en = .returned (.bool (fewZ k p e wh b l k' p' e' wh' b' l')) ∧ Below w.heap.size w w' := by
  by_cases h1 : rightZ k p e wh b l = 0
  · by_cases h2 : rightZ k' p' e' wh' b' l' = 0
    · by_cases h3 : k = k'
      · subst h3
        by_cases h4 : l = l'
        · subst h4
          have hv : fewZ k p e wh b l k p' e' wh' b' l = (decide (p' ≤ p) && decide (wh' ≤ wh) && decide (e ≤ e') && decide (b ≤ b')) := by
            unfold fewZ; rw [Bool.eq_iff_iff]; simp [h1, h2, and_assoc]
          rw [hv]
          clear hv
          by_cases g1 : p' ≤ p <;> by_cases g2 : wh' ≤ wh <;> by_cases g3 : e ≤ e'
          all_goals
            go_enter Try.func17, Try.ntmps17
            go_wp2_with (first | (go_at_call 16; refine (cright_any _ _ _ _ _ _ _).mono ?_; rintro e w' ⟨rfl, hb⟩; obtain ⟨hc, hf⟩ := bcell hb; have hz := hb.size; (try simp at hz); (try have hz1 : w.heap.size < w'.heap.size := by omega); (try have hz2 : w.heap.size + 1 < w'.heap.size := by omega); (try have hz3 : w.heap.size < w'.heap.size + 1 := by omega); (try have hz4 : w.heap.size < w'.heap.size + 1 + 1 := by omega); (try have hz5 : ¬ w.heap.size = w'.heap.size := by omega); (try have hz6 : w.heap.size + 1 + 1 < w'.heap.size := by omega)))
            go_ret
            exact ⟨ret_bool (by rw [Bool.eq_iff_iff]; first | (simp; done) | (simp; omega)), below_then (below_box2 (by assumption)) (by assumption)⟩
        · have hv : fewZ k p e wh b l k p' e' wh' b' l' = false := by unfold fewZ; simp [h4]
          rw [hv]
          clear hv
          have h4' : (l == l') = false := by simp; exact h4
          go_enter Try.func17, Try.ntmps17
          go_wp2_with (first | (go_at_call 16; refine (cright_any _ _ _ _ _ _ _).mono ?_; rintro e w' ⟨rfl, hb⟩; obtain ⟨hc, hf⟩ := bcell hb; have hz := hb.size; (try simp at hz); (try have hz1 : w.heap.size < w'.heap.size := by omega); (try have hz2 : w.heap.size + 1 < w'.heap.size := by omega); (try have hz3 : w.heap.size < w'.heap.size + 1 := by omega); (try have hz4 : w.heap.size < w'.heap.size + 1 + 1 := by omega); (try have hz5 : ¬ w.heap.size = w'.heap.size := by omega); (try have hz6 : w.heap.size + 1 + 1 < w'.heap.size := by omega)))
          go_ret
          exact ⟨rfl, below_then (below_box2 (by assumption)) (by assumption)⟩
      · have hv : fewZ k p e wh b l k' p' e' wh' b' l' = false := by unfold fewZ; simp [h3]
        rw [hv]
        clear hv
        have h3' : (k == k') = false := by simp; exact h3
        go_enter Try.func17, Try.ntmps17
        go_wp2_with (first | (go_at_call 16; refine (cright_any _ _ _ _ _ _ _).mono ?_; rintro e w' ⟨rfl, hb⟩; obtain ⟨hc, hf⟩ := bcell hb; have hz := hb.size; (try simp at hz); (try have hz1 : w.heap.size < w'.heap.size := by omega); (try have hz2 : w.heap.size + 1 < w'.heap.size := by omega); (try have hz3 : w.heap.size < w'.heap.size + 1 := by omega); (try have hz4 : w.heap.size < w'.heap.size + 1 + 1 := by omega); (try have hz5 : ¬ w.heap.size = w'.heap.size := by omega); (try have hz6 : w.heap.size + 1 + 1 < w'.heap.size := by omega)))
        go_ret
        exact ⟨rfl, below_then (below_box2 (by assumption)) (by assumption)⟩
    · have hv : fewZ k p e wh b l k' p' e' wh' b' l' = false := by unfold fewZ; simp [h2]
      rw [hv]
      clear hv
      have h2' : (rightZ k' p' e' wh' b' l' == 0) = false := by simp; exact h2
      go_enter Try.func17, Try.ntmps17
      go_wp2_with (first | (go_at_call 16; refine (cright_any _ _ _ _ _ _ _).mono ?_; rintro e w' ⟨rfl, hb⟩; obtain ⟨hc, hf⟩ := bcell hb; have hz := hb.size; (try simp at hz); (try have hz1 : w.heap.size < w'.heap.size := by omega); (try have hz2 : w.heap.size + 1 < w'.heap.size := by omega); (try have hz3 : w.heap.size < w'.heap.size + 1 := by omega); (try have hz4 : w.heap.size < w'.heap.size + 1 + 1 := by omega); (try have hz5 : ¬ w.heap.size = w'.heap.size := by omega); (try have hz6 : w.heap.size + 1 + 1 < w'.heap.size := by omega)))
      go_ret
      exact ⟨rfl, below_then (below_box2 (by assumption)) (by assumption)⟩
  · have hv : fewZ k p e wh b l k' p' e' wh' b' l' = false := by unfold fewZ; simp [h1]
    rw [hv]
    clear hv
    have h1' : (rightZ k p e wh b l == 0) = false := by simp; exact h1
    go_enter Try.func17, Try.ntmps17
    go_wp2_with (first | (go_at_call 16; refine (cright_any _ _ _ _ _ _ _).mono ?_; rintro e w' ⟨rfl, hb⟩; obtain ⟨hc, hf⟩ := bcell hb; have hz := hb.size; (try simp at hz); (try have hz1 : w.heap.size < w'.heap.size := by omega); (try have hz2 : w.heap.size + 1 < w'.heap.size := by omega); (try have hz3 : w.heap.size < w'.heap.size + 1 := by omega); (try have hz4 : w.heap.size < w'.heap.size + 1 + 1 := by omega); (try have hz5 : ¬ w.heap.size = w'.heap.size := by omega); (try have hz6 : w.heap.size + 1 + 1 < w'.heap.size := by omega)))
    go_ret
    exact ⟨rfl, below_box2 hb⟩
attribute [irreducible] fewZ
end Go.Proofs.Ytndmmhljphlhjaa
