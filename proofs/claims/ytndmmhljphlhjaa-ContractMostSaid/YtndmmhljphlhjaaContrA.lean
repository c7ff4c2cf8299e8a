/- What the laws of the layer 'contract' begin with. -/
import Derived.Test.YtndmmhljphlhjaaContrL
namespace Go.Proofs.Ytndmmhljphlhjaa
set_option linter.unusedVariables false
set_option linter.unusedSimpArgs false
open Go.RowKit
set_option maxRecDepth 100000
set_option maxHeartbeats 4000000
theorem awake06 (w : World) : Calls Try.prog 15 #[] w fun e w' => e = .returned (.bool true) ∧ Below w.heap.size w w' := by
  have c1 : rightZ 4 2 1 10 40 0 = 0 := by kernel_rfl
  have c2 : mostZ 4 2 1 10 40 0 = 6 := by kernel_rfl
  have c3 : rightZ 0 0 0 0 0 0 = 12 := by kernel_rfl
  have c4 : fewZ 4 2 1 10 40 0 4 2 1 10 40 0 = true := by kernel_rfl
  go_enter Try.func15, Try.ntmps15
  go_wp2_with (first | (go_at_call 18; refine (rules_two _ _ _ _ _ _ _ c1 (by omega)).mono ?_; rintro en w' ⟨g, cap, rfl, hg1, hg2, hcap, r0, r1, r2, r3, r4, r5, r6, r7, hb⟩; obtain ⟨hc, hf⟩ := bcell hb; have hz := hb.size; (try simp at hz); (try have hz1 : w.heap.size < w'.heap.size := by omega); (try have hz2 : w.heap.size + 1 < w'.heap.size := by omega); (try have hz3 : w.heap.size < w'.heap.size + 1 := by omega); (try have hz4 : w.heap.size < w'.heap.size + 1 + 1 := by omega); (try have hz5 : ¬ w.heap.size = w'.heap.size := by omega); (try have hz6 : w.heap.size + 1 + 1 < w'.heap.size := by omega)) | (go_at_call 19; refine (most_any _ _ _ _ _ _ _).mono ?_; rintro e w' ⟨rfl, hb⟩; obtain ⟨hc, hf⟩ := bcell hb; have hz := hb.size; (try simp at hz); (try have hz1 : w.heap.size < w'.heap.size := by omega); (try have hz2 : w.heap.size + 1 < w'.heap.size := by omega); (try have hz3 : w.heap.size < w'.heap.size + 1 := by omega); (try have hz4 : w.heap.size < w'.heap.size + 1 + 1 := by omega); (try have hz5 : ¬ w.heap.size = w'.heap.size := by omega); (try have hz6 : w.heap.size + 1 + 1 < w'.heap.size := by omega)) | (go_at_call 16; refine (cright_any _ _ _ _ _ _ _).mono ?_; rintro e w' ⟨rfl, hb⟩; obtain ⟨hc, hf⟩ := bcell hb; have hz := hb.size; (try simp at hz); (try have hz1 : w.heap.size < w'.heap.size := by omega); (try have hz2 : w.heap.size + 1 < w'.heap.size := by omega); (try have hz3 : w.heap.size < w'.heap.size + 1 := by omega); (try have hz4 : w.heap.size < w'.heap.size + 1 + 1 := by omega); (try have hz5 : ¬ w.heap.size = w'.heap.size := by omega); (try have hz6 : w.heap.size + 1 + 1 < w'.heap.size := by omega)) | (go_at_call 17; refine (fewer_any _ _ _ _ _ _ _ _ _ _ _ _ _).mono ?_; rintro e w' ⟨rfl, hb⟩; obtain ⟨hc, hf⟩ := bcell hb; have hz := hb.size; (try simp at hz); (try have hz1 : w.heap.size < w'.heap.size := by omega); (try have hz2 : w.heap.size + 1 < w'.heap.size := by omega); (try have hz3 : w.heap.size < w'.heap.size + 1 := by omega); (try have hz4 : w.heap.size < w'.heap.size + 1 + 1 := by omega); (try have hz5 : ¬ w.heap.size = w'.heap.size := by omega); (try have hz6 : w.heap.size + 1 + 1 < w'.heap.size := by omega)))
  go_ret
  exact ⟨ret_bool (by simp), by (repeat' (first | exact Below.refl _ _ | assumption | (refine Below.grown ?_ (by assumption) (by first | omega | (simp; omega)) (by simp [Value.ownBlock]; try omega)) | (refine below_drewN ?_ _) | (refine Below.drew ?_) | (refine Below.alloc ?_ (by first | omega | (simp; done) | (simp; omega)) _) | (refine Below.setCell ?_ (by first | omega | (simp; done) | (simp; omega)) _) | (refine below_then ?_ (Aft.below _)) | (apply below_then; rotate_left; assumption)))⟩
theorem contractSpans_any (k p e wh b l n : Int) (w : World) (n0 : -9223372036854775808 ≤ n) (n1 : n ≤ 9223372036854775807) :
    Calls Try.prog 4 #[.agg #[.int .i64 k, .int .i64 p, .int .i64 e, .int .i64 wh, .int .i64 b, .int .i64 l], .int .i64 n] w fun e w' => e = .returned (.bool true) ∧ Below w.heap.size w w' := by
  by_cases hr : rightZ k p e wh b l = 0
  · have hf := rightZ_zero.1 hr
    have h1 : n < 1 ∨ 1099511627776 < n → rightZ k n e wh b l = 11 := fun h => by
      refine (rightZ_of (Or.inr ⟨by unfold FineP at hf; omega, Or.inr ⟨by unfold FineP at hf ⊢; omega, rfl⟩⟩)).symm
    have h2 : rightZ k p n wh b l = 0 ↔ 0 ≤ n ∧ n ≤ 1099511627776 := by
      rw [rightZ_zero]; unfold FineP at hf ⊢; omega
    have h3 : rightZ n p e wh b l = 12 ↔ n < 1 ∨ 7 < n := rightZ_kind
    obtain ⟨x, hx⟩ : ∃ x, rightZ k n e wh b l = x := ⟨_, rfl⟩
    obtain ⟨y, hy⟩ : ∃ y, rightZ k p n wh b l = y := ⟨_, rfl⟩
    obtain ⟨z, hz0⟩ : ∃ z, rightZ n p e wh b l = z := ⟨_, rfl⟩
    rw [hx] at h1
    rw [hy] at h2
    rw [hz0] at h3
    clear hf
    have hc : n < 0 ∨ (0 ≤ n ∧ n ≤ 0) ∨ (1 ≤ n ∧ n ≤ 7) ∨ (8 ≤ n ∧ n ≤ 1099511627776) ∨ 1099511627776 < n := by omega
    rcases hc with hc | hc | hc | hc | hc
    all_goals
      have d1 : (n < 1 ∨ 1099511627776 < n) → (x == 11) = true := fun h => by simp; exact h1 h
      have d2 : (0 ≤ n ∧ n ≤ 1099511627776) → (y == 0) = true := fun h => by simp; exact h2.2 h
      have d2' : ¬ (0 ≤ n ∧ n ≤ 1099511627776) → (y == 0) = false := fun h => by simp; omega
      have d3 : (n < 1 ∨ 7 < n) → (z == 12) = true := fun h => by simp; exact h3.2 h
      have d3' : ¬ (n < 1 ∨ 7 < n) → (z == 12) = false := fun h => by simp; omega
      first | (have d1 := d1 (by omega)) | clear d1
      first | (have d2 := d2 (by omega); clear d2') | (have d2' := d2' (by omega); clear d2)
      first | (have d3 := d3 (by omega); clear d3') | (have d3' := d3' (by omega); clear d3)
      clear h1 h2 h3
      go_enter Try.func4, Try.ntmps4
      go_wp2_with (first | (go_at_call 15; refine (awake06 _).mono ?_; rintro e w' ⟨rfl, hb⟩; obtain ⟨hc, hf⟩ := bcell hb; have hz := hb.size; (try simp at hz); (try have hz1 : w.heap.size < w'.heap.size := by omega); (try have hz2 : w.heap.size + 1 < w'.heap.size := by omega); (try have hz3 : w.heap.size < w'.heap.size + 1 := by omega); (try have hz4 : w.heap.size < w'.heap.size + 1 + 1 := by omega); (try have hz5 : ¬ w.heap.size = w'.heap.size := by omega); (try have hz6 : w.heap.size + 1 + 1 < w'.heap.size := by omega)) | (go_at_call 16; refine (cright_any _ _ _ _ _ _ _).mono ?_; rintro e w' ⟨rfl, hb⟩; obtain ⟨hc, hf⟩ := bcell hb; have hz := hb.size; (try simp at hz); (try have hz1 : w.heap.size < w'.heap.size := by omega); (try have hz2 : w.heap.size + 1 < w'.heap.size := by omega); (try have hz3 : w.heap.size < w'.heap.size + 1 := by omega); (try have hz4 : w.heap.size < w'.heap.size + 1 + 1 := by omega); (try have hz5 : ¬ w.heap.size = w'.heap.size := by omega); (try have hz6 : w.heap.size + 1 + 1 < w'.heap.size := by omega)))
      all_goals
        go_ret
        refine ⟨ret_bool ?_, by (repeat' (first | exact Below.refl _ _ | assumption | (refine Below.grown ?_ (by assumption) (by first | omega | (simp; omega)) (by simp [Value.ownBlock]; try omega)) | (refine below_drewN ?_ _) | (refine Below.drew ?_) | (refine Below.alloc ?_ (by first | omega | (simp; done) | (simp; omega)) _) | (refine Below.setCell ?_ (by first | omega | (simp; done) | (simp; omega)) _) | (refine below_then ?_ (Aft.below _)) | (apply below_then; rotate_left; assumption)))⟩
        clear hx hy hz0
        go_light
        first | (simp; done) | (simp; omega) | (exfalso; simp_all; done) | (exfalso; simp at *; omega)
  · have hr' : (rightZ k p e wh b l == 0) = false := by simp; exact hr
    go_enter Try.func4, Try.ntmps4
    go_wp2_with (first | (go_at_call 15; refine (awake06 _).mono ?_; rintro e w' ⟨rfl, hb⟩; obtain ⟨hc, hf⟩ := bcell hb; have hz := hb.size; (try simp at hz); (try have hz1 : w.heap.size < w'.heap.size := by omega); (try have hz2 : w.heap.size + 1 < w'.heap.size := by omega); (try have hz3 : w.heap.size < w'.heap.size + 1 := by omega); (try have hz4 : w.heap.size < w'.heap.size + 1 + 1 := by omega); (try have hz5 : ¬ w.heap.size = w'.heap.size := by omega); (try have hz6 : w.heap.size + 1 + 1 < w'.heap.size := by omega)) | (go_at_call 16; refine (cright_any _ _ _ _ _ _ _).mono ?_; rintro e w' ⟨rfl, hb⟩; obtain ⟨hc, hf⟩ := bcell hb; have hz := hb.size; (try simp at hz); (try have hz1 : w.heap.size < w'.heap.size := by omega); (try have hz2 : w.heap.size + 1 < w'.heap.size := by omega); (try have hz3 : w.heap.size < w'.heap.size + 1 := by omega); (try have hz4 : w.heap.size < w'.heap.size + 1 + 1 := by omega); (try have hz5 : ¬ w.heap.size = w'.heap.size := by omega); (try have hz6 : w.heap.size + 1 + 1 < w'.heap.size := by omega)))
    go_ret
    exact ⟨rfl, by (repeat' (first | exact Below.refl _ _ | assumption | (refine Below.grown ?_ (by assumption) (by first | omega | (simp; omega)) (by simp [Value.ownBlock]; try omega)) | (refine below_drewN ?_ _) | (refine Below.drew ?_) | (refine Below.alloc ?_ (by first | omega | (simp; done) | (simp; omega)) _) | (refine Below.setCell ?_ (by first | omega | (simp; done) | (simp; omega)) _) | (refine below_then ?_ (Aft.below _)) | (apply below_then; rotate_left; assumption)))⟩
end Go.Proofs.Ytndmmhljphlhjaa
