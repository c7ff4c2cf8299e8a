/- More walks of the layer 'contract': what its laws begin with, and two of them. -/
import Derived.Test.YtndmmhljphlhjaaContrF
import Derived.Test.YtndmmhljphlhjaaRulesW
import Derived.KernelRfl
namespace Go.Proofs.Ytndmmhljphlhjaa
set_option linter.unusedVariables false
set_option linter.unusedSimpArgs false
open Go.RowKit
set_option maxRecDepth 100000
set_option maxHeartbeats 4000000
/-- two rules, cell by cell. -/
theorem rules_two (k p e wh b l : Int) (w : World) (h : rightZ k p e wh b l = 0) (hk : 2 ≤ k ∧ k ≤ 4) :
    Calls Try.prog 18 #[.agg #[.int .i64 k, .int .i64 p, .int .i64 e, .int .i64 wh, .int .i64 b, .int .i64 l]] w fun en w' =>
      ∃ g cap, en = .returned (.slice (some ⟨g, 0, none⟩) 2 cap) ∧ w.heap.size ≤ g ∧ g < w'.heap.size ∧ 2 ≤ cap ∧
        w'.cell? ⟨g, 0, none⟩ = some (.int .i64 p) ∧ w'.cell? ⟨g, 1, none⟩ = some (.int .i64 e) ∧ w'.cell? ⟨g, 2, none⟩ = some (.bool false) ∧ w'.cell? ⟨g, 3, none⟩ = some (.bool false) ∧
        w'.cell? ⟨g, 4, none⟩ = some (.int .i64 wh) ∧ w'.cell? ⟨g, 5, none⟩ = some (.int .i64 (b + e)) ∧ w'.cell? ⟨g, 6, none⟩ = some (.bool (decide (3 ≤ k))) ∧ w'.cell? ⟨g, 7, none⟩ = some (.bool (decide (k = 4))) ∧
        Below w.heap.size w w' := by
  refine (rules_any k p e wh b l w h).mono ?_
  rintro en w' ⟨v, rfl, ho, hb⟩
  unfold rulesN rulesV at ho
  rw [if_pos hk, if_pos hk] at ho
  have ho' := ho
  rcases ho.2 with ⟨_, h0⟩ | ⟨g, cap, cur, rfl, hg, hh, hn, _, _, _⟩
  · omega
  have hlt := (ho'.lt g rfl).2
  have c := fun j (hj : j < 8) => ho'.cellAt j (by omega)
  exact ⟨g, cap, rfl, hg, hlt, hn, c 0 (by omega), c 1 (by omega), c 2 (by omega), c 3 (by omega), c 4 (by omega), c 5 (by omega), c 6 (by omega), c 7 (by omega), hb⟩
theorem rules_one (k p e wh b l : Int) (w : World) (h : rightZ k p e wh b l = 0) (hk : ¬ (2 ≤ k ∧ k ≤ 4)) :
    Calls Try.prog 18 #[.agg #[.int .i64 k, .int .i64 p, .int .i64 e, .int .i64 wh, .int .i64 b, .int .i64 l]] w fun en w' =>
      ∃ g cap, en = .returned (.slice (some ⟨g, 0, none⟩) 1 cap) ∧ w.heap.size ≤ g ∧ g < w'.heap.size ∧ 1 ≤ cap ∧
        w'.cell? ⟨g, 0, none⟩ = some (.int .i64 p) ∧ w'.cell? ⟨g, 1, none⟩ = some (.int .i64 e) ∧ w'.cell? ⟨g, 2, none⟩ = some (.bool false) ∧ w'.cell? ⟨g, 3, none⟩ = some (.bool false) ∧
        Below w.heap.size w w' := by
  refine (rules_any k p e wh b l w h).mono ?_
  rintro en w' ⟨v, rfl, ho, hb⟩
  unfold rulesN rulesV at ho
  rw [if_neg hk, if_neg hk] at ho
  have ho' := ho
  rcases ho.2 with ⟨_, h0⟩ | ⟨g, cap, cur, rfl, hg, hh, hn, _, _, _⟩
  · omega
  have hlt := (ho'.lt g rfl).2
  have c := fun j (hj : j < 4) => ho'.cellAt j (by omega)
  exact ⟨g, cap, rfl, hg, hlt, hn, c 0 (by omega), c 1 (by omega), c 2 (by omega), c 3 (by omega), hb⟩
/-- how many may come at the peak. -/
def mostZ (k p e wh b l : Int) : Int := if 2 ≤ k ∧ k ≤ 4 ∧ rightZ k p e wh b l = 0 ∧ wh ≠ p then 1 + b / (wh - p) else 0
theorem variable_any (k : Int) (w : World) : Calls Try.prog 35 #[.int .i64 k] w fun e w' => e = .returned (.bool (decide (2 ≤ k ∧ k ≤ 4))) ∧ w = w' := by
  go_enter Try.func35, Try.ntmps35
  go_wp2
  all_goals
    go_ret
    refine ⟨ret_bool ?_, rfl⟩
    rw [Bool.eq_iff_iff]; simp; omega
theorem most_any (k p e wh b l : Int) (w : World) :
    Calls Try.prog 19 #[.agg #[.int .i64 k, .int .i64 p, .int .i64 e, .int .i64 wh, .int .i64 b, .int .i64 l]] w fun en w' => en = .returned (.int .i64 (mostZ k p e wh b l)) ∧ Below w.heap.size w w' := by
  by_cases hk : 2 ≤ k ∧ k ≤ 4
  · by_cases hr : rightZ k p e wh b l = 0
    · by_cases hp : wh = p
      · have hm : mostZ k p e wh b l = 0 := by unfold mostZ; rw [if_neg (by omega)]
        rw [hm]
        clear hm
        subst hp
        go_enter Try.func19, Try.ntmps19
        go_wp2_with (first | (go_at_call 16; refine (cright_any _ _ _ _ _ _ _).mono ?_; rintro e w' ⟨rfl, hb⟩; obtain ⟨hc, hf⟩ := bcell hb; have hz := hb.size; (try simp at hz); (try have hz1 : w.heap.size < w'.heap.size := by omega); (try have hz2 : w.heap.size + 1 < w'.heap.size := by omega); (try have hz3 : w.heap.size < w'.heap.size + 1 := by omega); (try have hz4 : w.heap.size < w'.heap.size + 1 + 1 := by omega); (try have hz5 : ¬ w.heap.size = w'.heap.size := by omega); (try have hz6 : w.heap.size + 1 + 1 < w'.heap.size := by omega)) | (go_at_call 35; refine (variable_any _ _).mono ?_; rintro e w' ⟨rfl, rfl⟩))
        go_ret
        exact ⟨ret_int (by simp), by (repeat' (first | exact Below.refl _ _ | assumption | (refine Below.grown ?_ (by assumption) (by first | omega | (simp; omega)) (by simp [Value.ownBlock]; try omega)) | (refine below_drewN ?_ _) | (refine Below.drew ?_) | (refine Below.alloc ?_ (by first | omega | (simp; done) | (simp; omega)) _) | (refine Below.setCell ?_ (by first | omega | (simp; done) | (simp; omega)) _) | (refine below_then ?_ (Aft.below _)) | (apply below_then; rotate_left; assumption)))⟩
      · have hm : mostZ k p e wh b l = 1 + b / (wh - p) := by unfold mostZ; rw [if_pos (by omega)]
        have hp' : (wh == p) = false := by simp; exact hp
        have hf := rightZ_zero.1 hr
        have hd : p < wh ∧ 0 ≤ b ∧ b ≤ 1099511627776 ∧ 1 ≤ p ∧ wh ≤ 1099511627776 := by unfold FineP at hf; omega
        have hq := Int.ediv_le_self (a := b) (wh - p) (by omega)
        have hq0 : 0 ≤ b / (wh - p) := Int.ediv_nonneg (by omega) (by omega)
        clear hf
        rw [hm]
        clear hm
        go_enter Try.func19, Try.ntmps19
        go_wp2_with (first | (go_at_call 16; refine (cright_any _ _ _ _ _ _ _).mono ?_; rintro e w' ⟨rfl, hb⟩; obtain ⟨hc, hf⟩ := bcell hb; have hz := hb.size; (try simp at hz); (try have hz1 : w.heap.size < w'.heap.size := by omega); (try have hz2 : w.heap.size + 1 < w'.heap.size := by omega); (try have hz3 : w.heap.size < w'.heap.size + 1 := by omega); (try have hz4 : w.heap.size < w'.heap.size + 1 + 1 := by omega); (try have hz5 : ¬ w.heap.size = w'.heap.size := by omega); (try have hz6 : w.heap.size + 1 + 1 < w'.heap.size := by omega)) | (go_at_call 35; refine (variable_any _ _).mono ?_; rintro e w' ⟨rfl, rfl⟩))
        go_ret
        exact ⟨ret_int (by simp), by (repeat' (first | exact Below.refl _ _ | assumption | (refine Below.grown ?_ (by assumption) (by first | omega | (simp; omega)) (by simp [Value.ownBlock]; try omega)) | (refine below_drewN ?_ _) | (refine Below.drew ?_) | (refine Below.alloc ?_ (by first | omega | (simp; done) | (simp; omega)) _) | (refine Below.setCell ?_ (by first | omega | (simp; done) | (simp; omega)) _) | (refine below_then ?_ (Aft.below _)) | (apply below_then; rotate_left; assumption)))⟩
    · have hm : mostZ k p e wh b l = 0 := by unfold mostZ; rw [if_neg (by omega)]
      rw [hm]
      clear hm
      have hr' : (rightZ k p e wh b l == 0) = false := by simp; exact hr
      go_enter Try.func19, Try.ntmps19
      go_wp2_with (first | (go_at_call 16; refine (cright_any _ _ _ _ _ _ _).mono ?_; rintro e w' ⟨rfl, hb⟩; obtain ⟨hc, hf⟩ := bcell hb; have hz := hb.size; (try simp at hz); (try have hz1 : w.heap.size < w'.heap.size := by omega); (try have hz2 : w.heap.size + 1 < w'.heap.size := by omega); (try have hz3 : w.heap.size < w'.heap.size + 1 := by omega); (try have hz4 : w.heap.size < w'.heap.size + 1 + 1 := by omega); (try have hz5 : ¬ w.heap.size = w'.heap.size := by omega); (try have hz6 : w.heap.size + 1 + 1 < w'.heap.size := by omega)) | (go_at_call 35; refine (variable_any _ _).mono ?_; rintro e w' ⟨rfl, rfl⟩))
      go_ret
      exact ⟨ret_int (by simp), by (repeat' (first | exact Below.refl _ _ | assumption | (refine Below.grown ?_ (by assumption) (by first | omega | (simp; omega)) (by simp [Value.ownBlock]; try omega)) | (refine below_drewN ?_ _) | (refine Below.drew ?_) | (refine Below.alloc ?_ (by first | omega | (simp; done) | (simp; omega)) _) | (refine Below.setCell ?_ (by first | omega | (simp; done) | (simp; omega)) _) | (refine below_then ?_ (Aft.below _)) | (apply below_then; rotate_left; assumption)))⟩
  · have hm : mostZ k p e wh b l = 0 := by unfold mostZ; rw [if_neg (by omega)]
    rw [hm]
    clear hm
    have hk' : decide (2 ≤ k ∧ k ≤ 4) = false := by simpa using hk
    go_enter Try.func19, Try.ntmps19
    go_wp2_with (first | (go_at_call 16; refine (cright_any _ _ _ _ _ _ _).mono ?_; rintro e w' ⟨rfl, hb⟩; obtain ⟨hc, hf⟩ := bcell hb; have hz := hb.size; (try simp at hz); (try have hz1 : w.heap.size < w'.heap.size := by omega); (try have hz2 : w.heap.size + 1 < w'.heap.size := by omega); (try have hz3 : w.heap.size < w'.heap.size + 1 := by omega); (try have hz4 : w.heap.size < w'.heap.size + 1 + 1 := by omega); (try have hz5 : ¬ w.heap.size = w'.heap.size := by omega); (try have hz6 : w.heap.size + 1 + 1 < w'.heap.size := by omega)) | (go_at_call 35; refine (variable_any _ _).mono ?_; rintro e w' ⟨rfl, rfl⟩))
    go_ret
    exact ⟨ret_int (by simp), by (repeat' (first | exact Below.refl _ _ | assumption | (refine Below.grown ?_ (by assumption) (by first | omega | (simp; omega)) (by simp [Value.ownBlock]; try omega)) | (refine below_drewN ?_ _) | (refine Below.drew ?_) | (refine Below.alloc ?_ (by first | omega | (simp; done) | (simp; omega)) _) | (refine Below.setCell ?_ (by first | omega | (simp; done) | (simp; omega)) _) | (refine below_then ?_ (Aft.below _)) | (apply below_then; rotate_left; assumption)))⟩
attribute [irreducible] mostZ
theorem always_any (k p e wh b l : Int) (w : World) :
    Calls Try.prog 23 #[.agg #[.int .i64 k, .int .i64 p, .int .i64 e, .int .i64 wh, .int .i64 b, .int .i64 l]] w fun en w' => en = .returned (.bool (decide (k = 7 ∧ rightZ k p e wh b l = 0))) ∧ Below w.heap.size w w' := by
  by_cases hk : k = 7
  · subst hk
    go_enter Try.func23, Try.ntmps23
    go_wp2_with (first | (go_at_call 16; refine (cright_any _ _ _ _ _ _ _).mono ?_; rintro e w' ⟨rfl, hb⟩; obtain ⟨hc, hf⟩ := bcell hb; have hz := hb.size; (try simp at hz); (try have hz1 : w.heap.size < w'.heap.size := by omega); (try have hz2 : w.heap.size + 1 < w'.heap.size := by omega); (try have hz3 : w.heap.size < w'.heap.size + 1 := by omega); (try have hz4 : w.heap.size < w'.heap.size + 1 + 1 := by omega); (try have hz5 : ¬ w.heap.size = w'.heap.size := by omega); (try have hz6 : w.heap.size + 1 + 1 < w'.heap.size := by omega)))
    go_ret
    exact ⟨ret_bool (by rw [Bool.eq_iff_iff]; simp), by (repeat' (first | exact Below.refl _ _ | assumption | (refine Below.grown ?_ (by assumption) (by first | omega | (simp; omega)) (by simp [Value.ownBlock]; try omega)) | (refine below_drewN ?_ _) | (refine Below.drew ?_) | (refine Below.alloc ?_ (by first | omega | (simp; done) | (simp; omega)) _) | (refine Below.setCell ?_ (by first | omega | (simp; done) | (simp; omega)) _) | (refine below_then ?_ (Aft.below _)) | (apply below_then; rotate_left; assumption)))⟩
  · have hk' : (k == 7) = false := by simp; exact hk
    go_enter Try.func23, Try.ntmps23
    go_wp2_with (first | (go_at_call 16; refine (cright_any _ _ _ _ _ _ _).mono ?_; rintro e w' ⟨rfl, hb⟩; obtain ⟨hc, hf⟩ := bcell hb; have hz := hb.size; (try simp at hz); (try have hz1 : w.heap.size < w'.heap.size := by omega); (try have hz2 : w.heap.size + 1 < w'.heap.size := by omega); (try have hz3 : w.heap.size < w'.heap.size + 1 := by omega); (try have hz4 : w.heap.size < w'.heap.size + 1 + 1 := by omega); (try have hz5 : ¬ w.heap.size = w'.heap.size := by omega); (try have hz6 : w.heap.size + 1 + 1 < w'.heap.size := by omega)))
    go_ret
    exact ⟨ret_bool (by rw [Bool.eq_iff_iff]; simp; omega), by (repeat' (first | exact Below.refl _ _ | assumption | (refine Below.grown ?_ (by assumption) (by first | omega | (simp; omega)) (by simp [Value.ownBlock]; try omega)) | (refine below_drewN ?_ _) | (refine Below.drew ?_) | (refine Below.alloc ?_ (by first | omega | (simp; done) | (simp; omega)) _) | (refine Below.setCell ?_ (by first | omega | (simp; done) | (simp; omega)) _) | (refine below_then ?_ (Aft.below _)) | (apply below_then; rotate_left; assumption)))⟩
end Go.Proofs.Ytndmmhljphlhjaa
