/- The walks of the laws ContractRules, ContractTells, ContractKinds. -/
import Derived.Test.YtndmmhljphlhjaaContrA
import Derived.Test.YtndmmhljphlhjaaRulesR
import Derived.Test.YtndmmhljphlhjaaKit3
import Derived.Test.YtndmmhljphlhjaaSegs
namespace Go.Proofs.Ytndmmhljphlhjaa
set_option linter.unusedVariables false
set_option linter.unusedSimpArgs false
open Go.RowKit
set_option maxRecDepth 100000
set_option maxHeartbeats 4000000
theorem mostZ_bad {k p e wh b l : Int} (h : ¬ rightZ k p e wh b l = 0) : mostZ k p e wh b l = 0 := by
  unfold mostZ; rw [if_neg (fun c => h c.2.2.1)]
theorem contractRules_two (k p e wh b l : Int) (w : World) (hr : rightZ k p e wh b l = 0) (hk : 2 ≤ k ∧ k ≤ 4) (z t : Bool) (hz0 : decide (3 ≤ k) = z) (ht0 : decide (k = 4) = t) (hzt : (z || !t) = true) (hpw : p ≤ wh) (hbe : e ≤ b + e) :
    Calls Try.prog 7 #[.agg #[.int .i64 k, .int .i64 p, .int .i64 e, .int .i64 wh, .int .i64 b, .int .i64 l]] w fun e w' => e = .returned (.bool true) ∧ Below w.heap.size w w' := by
  have hr' : (rightZ k p e wh b l == 0) = true := by simp [hr]
  cases z <;> cases t <;> simp only [Bool.or_true, Bool.or_false, Bool.not_true, Bool.not_false, Bool.false_eq_true, Bool.true_or, Bool.false_or] at hzt
  all_goals
    go_enter Try.func7, Try.ntmps7
    go_wp2_with (first | (go_at_call 15; refine (awake06 _).mono ?_; rintro e wa ⟨rfl, hb_wa⟩; obtain ⟨hc_wa, hf_wa⟩ := bcell hb_wa; have hs_wa := hb_wa.size; (try simp at hs_wa); (try have h1_wa : w.heap.size < wa.heap.size := by omega); (try have h3_wa : w.heap.size < wa.heap.size + 1 := by omega); (try have h4_wa : w.heap.size < wa.heap.size + 1 + 1 := by omega); (try have h5_wa : ¬ w.heap.size = wa.heap.size := by omega)) | (go_at_call 18; refine (rules_two _ _ _ _ _ _ _ hr hk).mono ?_; rintro en wl ⟨g, cap, rfl, hg1, hg2, hcap, r0, r1, r2, r3, r4, r5, r6, r7, hb_wl⟩; rw [hz0] at r6; rw [ht0] at r7; obtain ⟨hc_wl, hf_wl⟩ := bcell hb_wl; have hs_wl := hb_wl.size; (try simp at hs_wl); (try have h1_wl : w.heap.size < wl.heap.size := by omega); (try have h3_wl : w.heap.size < wl.heap.size + 1 := by omega)) | (go_at_call 16; refine (cright_any _ _ _ _ _ _ _).mono ?_; rintro e wr ⟨rfl, hb_wr⟩; obtain ⟨hc_wr, hf_wr⟩ := bcell hb_wr; have hs_wr := hb_wr.size; (try simp at hs_wr); (try have h1_wr : w.heap.size < wr.heap.size := by omega); (try have h3_wr : w.heap.size < wr.heap.size + 1 := by omega); (try have h4_wr : w.heap.size < wr.heap.size + 1 + 1 := by omega); (try have h5_wr : ¬ w.heap.size = wr.heap.size := by omega)))
    have k0 : wr.cell? ⟨w.heap.size, 0, none⟩ = some (.int .i64 k) := by (repeat (first | (with_reducible assumption) | ((with_reducible refine cell_top ?_ rfl); first | (with_reducible rfl) | (simp; done)) | (with_reducible apply cell_drew) | (with_reducible apply cell_drewN) | ((with_reducible apply cell_keep); focus (with_reducible assumption)) | (with_reducible refine cell_keep (Aft.below _) ?_) | (with_reducible apply cell_set) | ((with_reducible apply cell_off); focus (decide)) | ((with_reducible apply cell_beside); focus (first | omega | (simp; done) | (simp; omega))) | ((with_reducible apply cell_under); focus (first | omega | (simp; done) | (simp; omega)))))
    have k1 : wr.cell? ⟨w.heap.size, 1, none⟩ = some (.int .i64 p) := by (repeat (first | (with_reducible assumption) | ((with_reducible refine cell_top ?_ rfl); first | (with_reducible rfl) | (simp; done)) | (with_reducible apply cell_drew) | (with_reducible apply cell_drewN) | ((with_reducible apply cell_keep); focus (with_reducible assumption)) | (with_reducible refine cell_keep (Aft.below _) ?_) | (with_reducible apply cell_set) | ((with_reducible apply cell_off); focus (decide)) | ((with_reducible apply cell_beside); focus (first | omega | (simp; done) | (simp; omega))) | ((with_reducible apply cell_under); focus (first | omega | (simp; done) | (simp; omega)))))
    have k2 : wr.cell? ⟨w.heap.size, 2, none⟩ = some (.int .i64 e) := by (repeat (first | (with_reducible assumption) | ((with_reducible refine cell_top ?_ rfl); first | (with_reducible rfl) | (simp; done)) | (with_reducible apply cell_drew) | (with_reducible apply cell_drewN) | ((with_reducible apply cell_keep); focus (with_reducible assumption)) | (with_reducible refine cell_keep (Aft.below _) ?_) | (with_reducible apply cell_set) | ((with_reducible apply cell_off); focus (decide)) | ((with_reducible apply cell_beside); focus (first | omega | (simp; done) | (simp; omega))) | ((with_reducible apply cell_under); focus (first | omega | (simp; done) | (simp; omega)))))
    have k3 : wr.cell? ⟨w.heap.size, 3, none⟩ = some (.int .i64 wh) := by (repeat (first | (with_reducible assumption) | ((with_reducible refine cell_top ?_ rfl); first | (with_reducible rfl) | (simp; done)) | (with_reducible apply cell_drew) | (with_reducible apply cell_drewN) | ((with_reducible apply cell_keep); focus (with_reducible assumption)) | (with_reducible refine cell_keep (Aft.below _) ?_) | (with_reducible apply cell_set) | ((with_reducible apply cell_off); focus (decide)) | ((with_reducible apply cell_beside); focus (first | omega | (simp; done) | (simp; omega))) | ((with_reducible apply cell_under); focus (first | omega | (simp; done) | (simp; omega)))))
    have k4 : wr.cell? ⟨w.heap.size, 4, none⟩ = some (.int .i64 b) := by (repeat (first | (with_reducible assumption) | ((with_reducible refine cell_top ?_ rfl); first | (with_reducible rfl) | (simp; done)) | (with_reducible apply cell_drew) | (with_reducible apply cell_drewN) | ((with_reducible apply cell_keep); focus (with_reducible assumption)) | (with_reducible refine cell_keep (Aft.below _) ?_) | (with_reducible apply cell_set) | ((with_reducible apply cell_off); focus (decide)) | ((with_reducible apply cell_beside); focus (first | omega | (simp; done) | (simp; omega))) | ((with_reducible apply cell_under); focus (first | omega | (simp; done) | (simp; omega)))))
    have k5 : wr.cell? ⟨w.heap.size, 5, none⟩ = some (.int .i64 l) := by (repeat (first | (with_reducible assumption) | ((with_reducible refine cell_top ?_ rfl); first | (with_reducible rfl) | (simp; done)) | (with_reducible apply cell_drew) | (with_reducible apply cell_drewN) | ((with_reducible apply cell_keep); focus (with_reducible assumption)) | (with_reducible refine cell_keep (Aft.below _) ?_) | (with_reducible apply cell_set) | ((with_reducible apply cell_off); focus (decide)) | ((with_reducible apply cell_beside); focus (first | omega | (simp; done) | (simp; omega))) | ((with_reducible apply cell_under); focus (first | omega | (simp; done) | (simp; omega)))))
    have q0 := cell_keep hb_wr r0
    have q1 := cell_keep hb_wr r1
    have q2 := cell_keep hb_wr r2
    have q3 := cell_keep hb_wr r3
    have q4 := cell_keep hb_wr r4
    have q5 := cell_keep hb_wr r5
    have q6 := cell_keep hb_wr r6
    have q7 := cell_keep hb_wr r7
    clear hc_wa hc_wl hc_wr
    go_quiet (fail)
    go_wp2
    go_quiet (fail)
    go_wp2
    go_ret
    exact ⟨ret_bool (by simp), by (repeat' (first | (with_reducible exact Below.refl _ _) | (with_reducible assumption) | (with_reducible refine below_drewN ?_ _) | (with_reducible refine Below.drew ?_) | ((with_reducible refine Below.alloc ?_ ?_ _); (rotate_left; focus (first | omega | (simp; done) | (simp; omega)))) | ((with_reducible refine Below.setCell ?_ ?_ _); (rotate_left; focus (first | omega | (simp; done) | (simp; omega)))) | (with_reducible refine Below.grown ?_ (by assumption) (by first | omega | (simp; omega)) (by simp [Value.ownBlock]; try omega)) | (with_reducible refine below_then ?_ (Aft.below _)) | (with_reducible apply below_then; rotate_left; assumption)))⟩
theorem contractRules_one (k p e wh b l : Int) (w : World) (hr : rightZ k p e wh b l = 0) (hk : ¬ (2 ≤ k ∧ k ≤ 4)) :
    Calls Try.prog 7 #[.agg #[.int .i64 k, .int .i64 p, .int .i64 e, .int .i64 wh, .int .i64 b, .int .i64 l]] w fun e w' => e = .returned (.bool true) ∧ Below w.heap.size w w' := by
  have hr' : (rightZ k p e wh b l == 0) = true := by simp [hr]
  go_enter Try.func7, Try.ntmps7
  go_wp2_with (first | (go_at_call 15; refine (awake06 _).mono ?_; rintro e wa ⟨rfl, hb_wa⟩; obtain ⟨hc_wa, hf_wa⟩ := bcell hb_wa; have hs_wa := hb_wa.size; (try simp at hs_wa); (try have h1_wa : w.heap.size < wa.heap.size := by omega); (try have h3_wa : w.heap.size < wa.heap.size + 1 := by omega); (try have h4_wa : w.heap.size < wa.heap.size + 1 + 1 := by omega); (try have h5_wa : ¬ w.heap.size = wa.heap.size := by omega)) | (go_at_call 18; refine (rules_one _ _ _ _ _ _ _ hr hk).mono ?_; rintro en wl ⟨g, cap, rfl, hg1, hg2, hcap, r0, r1, r2, r3, hb_wl⟩; obtain ⟨hc_wl, hf_wl⟩ := bcell hb_wl; have hs_wl := hb_wl.size; (try simp at hs_wl); (try have h1_wl : w.heap.size < wl.heap.size := by omega); (try have h3_wl : w.heap.size < wl.heap.size + 1 := by omega)) | (go_at_call 16; refine (cright_any _ _ _ _ _ _ _).mono ?_; rintro e wr ⟨rfl, hb_wr⟩; obtain ⟨hc_wr, hf_wr⟩ := bcell hb_wr; have hs_wr := hb_wr.size; (try simp at hs_wr); (try have h1_wr : w.heap.size < wr.heap.size := by omega); (try have h3_wr : w.heap.size < wr.heap.size + 1 := by omega); (try have h4_wr : w.heap.size < wr.heap.size + 1 + 1 := by omega); (try have h5_wr : ¬ w.heap.size = wr.heap.size := by omega)))
  have k0 : wr.cell? ⟨w.heap.size, 0, none⟩ = some (.int .i64 k) := by (repeat (first | (with_reducible assumption) | ((with_reducible refine cell_top ?_ rfl); first | (with_reducible rfl) | (simp; done)) | (with_reducible apply cell_drew) | (with_reducible apply cell_drewN) | ((with_reducible apply cell_keep); focus (with_reducible assumption)) | (with_reducible refine cell_keep (Aft.below _) ?_) | (with_reducible apply cell_set) | ((with_reducible apply cell_off); focus (decide)) | ((with_reducible apply cell_beside); focus (first | omega | (simp; done) | (simp; omega))) | ((with_reducible apply cell_under); focus (first | omega | (simp; done) | (simp; omega)))))
  have k1 : wr.cell? ⟨w.heap.size, 1, none⟩ = some (.int .i64 p) := by (repeat (first | (with_reducible assumption) | ((with_reducible refine cell_top ?_ rfl); first | (with_reducible rfl) | (simp; done)) | (with_reducible apply cell_drew) | (with_reducible apply cell_drewN) | ((with_reducible apply cell_keep); focus (with_reducible assumption)) | (with_reducible refine cell_keep (Aft.below _) ?_) | (with_reducible apply cell_set) | ((with_reducible apply cell_off); focus (decide)) | ((with_reducible apply cell_beside); focus (first | omega | (simp; done) | (simp; omega))) | ((with_reducible apply cell_under); focus (first | omega | (simp; done) | (simp; omega)))))
  have k2 : wr.cell? ⟨w.heap.size, 2, none⟩ = some (.int .i64 e) := by (repeat (first | (with_reducible assumption) | ((with_reducible refine cell_top ?_ rfl); first | (with_reducible rfl) | (simp; done)) | (with_reducible apply cell_drew) | (with_reducible apply cell_drewN) | ((with_reducible apply cell_keep); focus (with_reducible assumption)) | (with_reducible refine cell_keep (Aft.below _) ?_) | (with_reducible apply cell_set) | ((with_reducible apply cell_off); focus (decide)) | ((with_reducible apply cell_beside); focus (first | omega | (simp; done) | (simp; omega))) | ((with_reducible apply cell_under); focus (first | omega | (simp; done) | (simp; omega)))))
  have k3 : wr.cell? ⟨w.heap.size, 3, none⟩ = some (.int .i64 wh) := by (repeat (first | (with_reducible assumption) | ((with_reducible refine cell_top ?_ rfl); first | (with_reducible rfl) | (simp; done)) | (with_reducible apply cell_drew) | (with_reducible apply cell_drewN) | ((with_reducible apply cell_keep); focus (with_reducible assumption)) | (with_reducible refine cell_keep (Aft.below _) ?_) | (with_reducible apply cell_set) | ((with_reducible apply cell_off); focus (decide)) | ((with_reducible apply cell_beside); focus (first | omega | (simp; done) | (simp; omega))) | ((with_reducible apply cell_under); focus (first | omega | (simp; done) | (simp; omega)))))
  have k4 : wr.cell? ⟨w.heap.size, 4, none⟩ = some (.int .i64 b) := by (repeat (first | (with_reducible assumption) | ((with_reducible refine cell_top ?_ rfl); first | (with_reducible rfl) | (simp; done)) | (with_reducible apply cell_drew) | (with_reducible apply cell_drewN) | ((with_reducible apply cell_keep); focus (with_reducible assumption)) | (with_reducible refine cell_keep (Aft.below _) ?_) | (with_reducible apply cell_set) | ((with_reducible apply cell_off); focus (decide)) | ((with_reducible apply cell_beside); focus (first | omega | (simp; done) | (simp; omega))) | ((with_reducible apply cell_under); focus (first | omega | (simp; done) | (simp; omega)))))
  have k5 : wr.cell? ⟨w.heap.size, 5, none⟩ = some (.int .i64 l) := by (repeat (first | (with_reducible assumption) | ((with_reducible refine cell_top ?_ rfl); first | (with_reducible rfl) | (simp; done)) | (with_reducible apply cell_drew) | (with_reducible apply cell_drewN) | ((with_reducible apply cell_keep); focus (with_reducible assumption)) | (with_reducible refine cell_keep (Aft.below _) ?_) | (with_reducible apply cell_set) | ((with_reducible apply cell_off); focus (decide)) | ((with_reducible apply cell_beside); focus (first | omega | (simp; done) | (simp; omega))) | ((with_reducible apply cell_under); focus (first | omega | (simp; done) | (simp; omega)))))
  have q0 := cell_keep hb_wr r0
  have q1 := cell_keep hb_wr r1
  have q2 := cell_keep hb_wr r2
  have q3 := cell_keep hb_wr r3
  clear hc_wa hc_wl hc_wr
  go_quiet (fail)
  go_wp2
  go_quiet (fail)
  go_wp2
  go_ret
  exact ⟨ret_bool (by simp), by (repeat' (first | (with_reducible exact Below.refl _ _) | (with_reducible assumption) | (with_reducible refine below_drewN ?_ _) | (with_reducible refine Below.drew ?_) | ((with_reducible refine Below.alloc ?_ ?_ _); (rotate_left; focus (first | omega | (simp; done) | (simp; omega)))) | ((with_reducible refine Below.setCell ?_ ?_ _); (rotate_left; focus (first | omega | (simp; done) | (simp; omega)))) | (with_reducible refine Below.grown ?_ (by assumption) (by first | omega | (simp; omega)) (by simp [Value.ownBlock]; try omega)) | (with_reducible refine below_then ?_ (Aft.below _)) | (with_reducible apply below_then; rotate_left; assumption)))⟩
theorem contractRules_bad (k p e wh b l : Int) (w : World) (hr : ¬ rightZ k p e wh b l = 0) :
    Calls Try.prog 7 #[.agg #[.int .i64 k, .int .i64 p, .int .i64 e, .int .i64 wh, .int .i64 b, .int .i64 l]] w fun e w' => e = .returned (.bool true) ∧ Below w.heap.size w w' := by
  have hr' : (rightZ k p e wh b l == 0) = false := by simpa using hr
  have hm : mostZ k p e wh b l = 0 := mostZ_bad hr
  have ha : decide (k = 7 ∧ rightZ k p e wh b l = 0) = false := by simp [hr]
  go_enter Try.func7, Try.ntmps7
  go_wp2_with (first | (go_at_call 15; refine (awake06 _).mono ?_; rintro e wa ⟨rfl, hb_wa⟩; obtain ⟨hc_wa, hf_wa⟩ := bcell hb_wa; have hs_wa := hb_wa.size; (try simp at hs_wa); (try have h1_wa : w.heap.size < wa.heap.size := by omega); (try have h3_wa : w.heap.size < wa.heap.size + 1 := by omega); (try have h4_wa : w.heap.size < wa.heap.size + 1 + 1 := by omega); (try have h5_wa : ¬ w.heap.size = wa.heap.size := by omega)) | (go_at_call 18; refine (rules_bad _ _ _ _ _ _ _ hr).mono ?_; rintro e wl ⟨rfl, hb_wl⟩; obtain ⟨hc_wl, hf_wl⟩ := bcell hb_wl; have hs_wl := hb_wl.size; (try simp at hs_wl); (try have h1_wl : w.heap.size < wl.heap.size := by omega); (try have h3_wl : w.heap.size < wl.heap.size + 1 := by omega); (try have h4_wl : w.heap.size < wl.heap.size + 1 + 1 := by omega); (try have h5_wl : ¬ w.heap.size = wl.heap.size := by omega)) | (go_at_call 16; refine (cright_any _ _ _ _ _ _ _).mono ?_; rintro e wr ⟨rfl, hb_wr⟩; obtain ⟨hc_wr, hf_wr⟩ := bcell hb_wr; have hs_wr := hb_wr.size; (try simp at hs_wr); (try have h1_wr : w.heap.size < wr.heap.size := by omega); (try have h3_wr : w.heap.size < wr.heap.size + 1 := by omega); (try have h4_wr : w.heap.size < wr.heap.size + 1 + 1 := by omega); (try have h5_wr : ¬ w.heap.size = wr.heap.size := by omega)) | (go_at_call 23; refine (always_any _ _ _ _ _ _ _).mono ?_; rw [ha]; rintro e wy ⟨rfl, hb_wy⟩; obtain ⟨hc_wy, hf_wy⟩ := bcell hb_wy; have hs_wy := hb_wy.size; (try simp at hs_wy); (try have h1_wy : w.heap.size < wy.heap.size := by omega); (try have h3_wy : w.heap.size < wy.heap.size + 1 := by omega); (try have h4_wy : w.heap.size < wy.heap.size + 1 + 1 := by omega); (try have h5_wy : ¬ w.heap.size = wy.heap.size := by omega)) | (go_at_call 19; refine (most_any _ _ _ _ _ _ _).mono ?_; rw [hm]; rintro e wm ⟨rfl, hb_wm⟩; obtain ⟨hc_wm, hf_wm⟩ := bcell hb_wm; have hs_wm := hb_wm.size; (try simp at hs_wm); (try have h1_wm : w.heap.size < wm.heap.size := by omega); (try have h3_wm : w.heap.size < wm.heap.size + 1 := by omega); (try have h4_wm : w.heap.size < wm.heap.size + 1 + 1 := by omega); (try have h5_wm : ¬ w.heap.size = wm.heap.size := by omega)))
  go_ret
  exact ⟨ret_bool (by simp), by (repeat' (first | (with_reducible exact Below.refl _ _) | (with_reducible assumption) | (with_reducible refine below_drewN ?_ _) | (with_reducible refine Below.drew ?_) | ((with_reducible refine Below.alloc ?_ ?_ _); (rotate_left; focus (first | omega | (simp; done) | (simp; omega)))) | ((with_reducible refine Below.setCell ?_ ?_ _); (rotate_left; focus (first | omega | (simp; done) | (simp; omega)))) | (with_reducible refine Below.grown ?_ (by assumption) (by first | omega | (simp; omega)) (by simp [Value.ownBlock]; try omega)) | (with_reducible refine below_then ?_ (Aft.below _)) | (with_reducible apply below_then; rotate_left; assumption)))⟩
theorem contractRules_any (k p e wh b l : Int) (w : World) :
    Calls Try.prog 7 #[.agg #[.int .i64 k, .int .i64 p, .int .i64 e, .int .i64 wh, .int .i64 b, .int .i64 l]] w fun e w' => e = .returned (.bool true) ∧ Below w.heap.size w w' := by
  by_cases hr : rightZ k p e wh b l = 0
  · have hf := rightZ_zero.1 hr
    by_cases hk : 2 ≤ k ∧ k ≤ 4
    · refine contractRules_two k p e wh b l w hr hk _ _ rfl rfl ?_ (by unfold FineP at hf; omega) (by unfold FineP at hf; omega)
      by_cases h4 : k = 4
      · subst h4; rfl
      · simp [h4]
    · exact contractRules_one k p e wh b l w hr hk
  · exact contractRules_bad k p e wh b l w hr
theorem refRules_two (k p e wh b l : Int) (w : World) (h : rightZ k p e wh b l = 0) (hk : 2 ≤ k ∧ k ≤ 4) :
    Calls Try.prog 22 #[.agg #[.int .i64 k, .int .i64 p, .int .i64 e, .int .i64 wh, .int .i64 b, .int .i64 l]] w fun en w' =>
      ∃ g cap, en = .returned (.slice (some ⟨g, 0, none⟩) 2 cap) ∧ w.heap.size ≤ g ∧ g < w'.heap.size ∧ 2 ≤ cap ∧
        w'.cell? ⟨g, 0, none⟩ = some (.int .i64 p) ∧ w'.cell? ⟨g, 1, none⟩ = some (.int .i64 e) ∧ w'.cell? ⟨g, 2, none⟩ = some (.bool false) ∧ w'.cell? ⟨g, 3, none⟩ = some (.bool false) ∧
        w'.cell? ⟨g, 4, none⟩ = some (.int .i64 wh) ∧ w'.cell? ⟨g, 5, none⟩ = some (.int .i64 (b + e)) ∧ w'.cell? ⟨g, 6, none⟩ = some (.bool (decide (3 ≤ k))) ∧ w'.cell? ⟨g, 7, none⟩ = some (.bool (decide (k = 4))) ∧
        Below w.heap.size w w' := by
  refine (refRules_any k p e wh b l w h).mono ?_
  rintro en w' ⟨v, rfl, ho, hb⟩
  unfold rulesN rulesV at ho
  rw [if_pos hk, if_pos hk] at ho
  have ho' := ho
  rcases ho.2 with ⟨_, h0⟩ | ⟨g, cap, cur, rfl, hg, hh, hn, _, _, _⟩
  · omega
  have hlt := (ho'.lt g rfl).2
  have c := fun j (hj : j < 8) => ho'.cellAt j (by omega)
  exact ⟨g, cap, rfl, hg, hlt, hn, c 0 (by omega), c 1 (by omega), c 2 (by omega), c 3 (by omega), c 4 (by omega), c 5 (by omega), c 6 (by omega), c 7 (by omega), hb⟩
theorem refRules_one (k p e wh b l : Int) (w : World) (h : rightZ k p e wh b l = 0) (hk : ¬ (2 ≤ k ∧ k ≤ 4)) :
    Calls Try.prog 22 #[.agg #[.int .i64 k, .int .i64 p, .int .i64 e, .int .i64 wh, .int .i64 b, .int .i64 l]] w fun en w' =>
      ∃ g cap, en = .returned (.slice (some ⟨g, 0, none⟩) 1 cap) ∧ w.heap.size ≤ g ∧ g < w'.heap.size ∧ 1 ≤ cap ∧
        w'.cell? ⟨g, 0, none⟩ = some (.int .i64 p) ∧ w'.cell? ⟨g, 1, none⟩ = some (.int .i64 e) ∧ w'.cell? ⟨g, 2, none⟩ = some (.bool false) ∧ w'.cell? ⟨g, 3, none⟩ = some (.bool false) ∧
        Below w.heap.size w w' := by
  refine (refRules_any k p e wh b l w h).mono ?_
  rintro en w' ⟨v, rfl, ho, hb⟩
  unfold rulesN rulesV at ho
  rw [if_neg hk, if_neg hk] at ho
  have ho' := ho
  rcases ho.2 with ⟨_, h0⟩ | ⟨g, cap, cur, rfl, hg, hh, hn, _, _, _⟩
  · omega
  have hlt := (ho'.lt g rfl).2
  have c := fun j (hj : j < 4) => ho'.cellAt j (by omega)
  exact ⟨g, cap, rfl, hg, hlt, hn, c 0 (by omega), c 1 (by omega), c 2 (by omega), c 3 (by omega), hb⟩
theorem same_one (g g' cap cap' : Nat) (p e : Int) (z t : Bool) (w : World) (r0 : w.cell? ⟨g, 0, none⟩ = some (.int .i64 p)) (r1 : w.cell? ⟨g, 1, none⟩ = some (.int .i64 e)) (r2 : w.cell? ⟨g, 2, none⟩ = some (.bool z)) (r3 : w.cell? ⟨g, 3, none⟩ = some (.bool t))
    (s0 : w.cell? ⟨g', 0, none⟩ = some (.int .i64 p)) (s1 : w.cell? ⟨g', 1, none⟩ = some (.int .i64 e)) (s2 : w.cell? ⟨g', 2, none⟩ = some (.bool z)) (s3 : w.cell? ⟨g', 3, none⟩ = some (.bool t)) (hc : 1 ≤ cap) (hc' : 1 ≤ cap') :
    Calls Try.prog 21 #[.slice (some ⟨g, 0, none⟩) 1 cap, .slice (some ⟨g', 0, none⟩) 1 cap'] w fun e w' => e = .returned (.bool true) ∧ Below w.heap.size w w' := by
  go_enter Try.func21, Try.ntmps21
  go_wp2
  refine wp_loop_rounds 2 ?_
  rw [rounds_succ]
  go_wp2
  go_quiet (fail)
  go_wp2
  rw [rounds_succ]
  go_wp2
  go_ret
  exact ⟨rfl, by (repeat' (first | (with_reducible exact Below.refl _ _) | (with_reducible assumption) | (with_reducible refine below_drewN ?_ _) | (with_reducible refine Below.drew ?_) | ((with_reducible refine Below.alloc ?_ ?_ _); (rotate_left; focus (first | omega | (simp; done) | (simp; omega)))) | ((with_reducible refine Below.setCell ?_ ?_ _); (rotate_left; focus (first | omega | (simp; done) | (simp; omega)))) | (with_reducible refine Below.grown ?_ (by assumption) (by first | omega | (simp; omega)) (by simp [Value.ownBlock]; try omega)) | (with_reducible refine below_then ?_ (Aft.below _)) | (with_reducible apply below_then; rotate_left; assumption)))⟩
theorem same_two (g g' cap cap' : Nat) (p e wh b : Int) (z t z' t' : Bool) (w : World) (r0 : w.cell? ⟨g, 0, none⟩ = some (.int .i64 p)) (r1 : w.cell? ⟨g, 1, none⟩ = some (.int .i64 e)) (r2 : w.cell? ⟨g, 2, none⟩ = some (.bool z)) (r3 : w.cell? ⟨g, 3, none⟩ = some (.bool t))
    (r4 : w.cell? ⟨g, 4, none⟩ = some (.int .i64 wh)) (r5 : w.cell? ⟨g, 5, none⟩ = some (.int .i64 b)) (r6 : w.cell? ⟨g, 6, none⟩ = some (.bool z')) (r7 : w.cell? ⟨g, 7, none⟩ = some (.bool t'))
    (s0 : w.cell? ⟨g', 0, none⟩ = some (.int .i64 p)) (s1 : w.cell? ⟨g', 1, none⟩ = some (.int .i64 e)) (s2 : w.cell? ⟨g', 2, none⟩ = some (.bool z)) (s3 : w.cell? ⟨g', 3, none⟩ = some (.bool t))
    (s4 : w.cell? ⟨g', 4, none⟩ = some (.int .i64 wh)) (s5 : w.cell? ⟨g', 5, none⟩ = some (.int .i64 b)) (s6 : w.cell? ⟨g', 6, none⟩ = some (.bool z')) (s7 : w.cell? ⟨g', 7, none⟩ = some (.bool t')) (hc : 2 ≤ cap) (hc' : 2 ≤ cap') :
    Calls Try.prog 21 #[.slice (some ⟨g, 0, none⟩) 2 cap, .slice (some ⟨g', 0, none⟩) 2 cap'] w fun e w' => e = .returned (.bool true) ∧ Below w.heap.size w w' := by
  go_enter Try.func21, Try.ntmps21
  go_wp2
  refine wp_loop_rounds 3 ?_
  rw [rounds_succ]
  go_wp2
  go_quiet (fail)
  go_wp2
  rw [rounds_succ]
  go_wp2
  go_quiet (fail)
  go_wp2
  rw [rounds_succ]
  go_wp2
  go_ret
  exact ⟨rfl, by (repeat' (first | (with_reducible exact Below.refl _ _) | (with_reducible assumption) | (with_reducible refine below_drewN ?_ _) | (with_reducible refine Below.drew ?_) | ((with_reducible refine Below.alloc ?_ ?_ _); (rotate_left; focus (first | omega | (simp; done) | (simp; omega)))) | ((with_reducible refine Below.setCell ?_ ?_ _); (rotate_left; focus (first | omega | (simp; done) | (simp; omega)))) | (with_reducible refine Below.grown ?_ (by assumption) (by first | omega | (simp; omega)) (by simp [Value.ownBlock]; try omega)) | (with_reducible refine below_then ?_ (Aft.below _)) | (with_reducible apply below_then; rotate_left; assumption)))⟩
theorem same_nil (w : World) :
    Calls Try.prog 21 #[.slice none 0 0, .slice none 0 0] w fun e w' => e = .returned (.bool true) ∧ Below w.heap.size w w' := by
  go_enter Try.func21, Try.ntmps21
  go_wp2
  refine wp_loop_rounds 1 ?_
  rw [rounds_succ]
  go_wp2
  go_ret
  exact ⟨rfl, by (repeat' (first | (with_reducible exact Below.refl _ _) | (with_reducible assumption) | (with_reducible refine below_drewN ?_ _) | (with_reducible refine Below.drew ?_) | ((with_reducible refine Below.alloc ?_ ?_ _); (rotate_left; focus (first | omega | (simp; done) | (simp; omega)))) | ((with_reducible refine Below.setCell ?_ ?_ _); (rotate_left; focus (first | omega | (simp; done) | (simp; omega)))) | (with_reducible refine Below.grown ?_ (by assumption) (by first | omega | (simp; omega)) (by simp [Value.ownBlock]; try omega)) | (with_reducible refine below_then ?_ (Aft.below _)) | (with_reducible apply below_then; rotate_left; assumption)))⟩
theorem always_is (k p e wh b l : Int) (w : World) (B : Bool) (hB : decide (k = 7 ∧ rightZ k p e wh b l = 0) = B) :
    Calls Try.prog 23 #[.agg #[.int .i64 k, .int .i64 p, .int .i64 e, .int .i64 wh, .int .i64 b, .int .i64 l]] w fun en w' => en = .returned (.bool B) ∧ Below w.heap.size w w' := by
  subst hB; exact always_any k p e wh b l w
theorem refMost_any (k p e wh b l : Int) (w : World) :
    Calls Try.prog 24 #[.agg #[.int .i64 k, .int .i64 p, .int .i64 e, .int .i64 wh, .int .i64 b, .int .i64 l]] w fun en w' => en = .returned (.int .i64 (mostZ k p e wh b l)) ∧ Below w.heap.size w w' := by
  by_cases hr : rightZ k p e wh b l = 0
  · have hf := rightZ_zero.1 hr
    by_cases hp : wh ≤ p
    · have hm : mostZ k p e wh b l = 0 := by unfold mostZ; unfold FineP at hf; rw [if_neg (by omega)]
      rw [hm]
      clear hm hf
      go_enter Try.func24, Try.ntmps24
      go_wp2_with (first | (go_at_call 20; refine (refCright_any _ _ _ _ _ _ _).mono ?_; rintro e w' ⟨rfl, hb⟩; obtain ⟨hc, hf⟩ := bcell hb; have hz := hb.size; (try simp at hz); (try have hz1 : w.heap.size < w'.heap.size := by omega); (try have hz2 : w.heap.size + 1 < w'.heap.size := by omega); (try have hz3 : w.heap.size < w'.heap.size + 1 := by omega); (try have hz4 : w.heap.size < w'.heap.size + 1 + 1 := by omega); (try have hz5 : ¬ w.heap.size = w'.heap.size := by omega); (try have hz6 : w.heap.size + 1 + 1 < w'.heap.size := by omega)))
      go_ret
      exact ⟨ret_int (by simp), by (repeat' (first | (with_reducible exact Below.refl _ _) | (with_reducible assumption) | (with_reducible refine below_drewN ?_ _) | (with_reducible refine Below.drew ?_) | ((with_reducible refine Below.alloc ?_ ?_ _); (rotate_left; focus (first | omega | (simp; done) | (simp; omega)))) | ((with_reducible refine Below.setCell ?_ ?_ _); (rotate_left; focus (first | omega | (simp; done) | (simp; omega)))) | (with_reducible refine Below.grown ?_ (by assumption) (by first | omega | (simp; omega)) (by simp [Value.ownBlock]; try omega)) | (with_reducible refine below_then ?_ (Aft.below _)) | (with_reducible apply below_then; rotate_left; assumption)))⟩
    · have hk : 2 ≤ k ∧ k ≤ 4 ∧ p < wh ∧ 0 ≤ b ∧ b ≤ 1099511627776 ∧ 1 ≤ p ∧ wh ≤ 1099511627776 := by unfold FineP at hf; omega
      have hm : mostZ k p e wh b l = 1 + b / (wh - p) := by unfold mostZ; rw [if_pos (by omega)]
      have hq := Int.ediv_le_self (a := b) (wh - p) (by omega)
      have hq0 : 0 ≤ b / (wh - p) := Int.ediv_nonneg (by omega) (by omega)
      rw [hm]
      clear hm hf
      go_enter Try.func24, Try.ntmps24
      go_wp2_with (first | (go_at_call 20; refine (refCright_any _ _ _ _ _ _ _).mono ?_; rintro e w' ⟨rfl, hb⟩; obtain ⟨hc, hf⟩ := bcell hb; have hz := hb.size; (try simp at hz); (try have hz1 : w.heap.size < w'.heap.size := by omega); (try have hz2 : w.heap.size + 1 < w'.heap.size := by omega); (try have hz3 : w.heap.size < w'.heap.size + 1 := by omega); (try have hz4 : w.heap.size < w'.heap.size + 1 + 1 := by omega); (try have hz5 : ¬ w.heap.size = w'.heap.size := by omega); (try have hz6 : w.heap.size + 1 + 1 < w'.heap.size := by omega)))
      go_ret
      exact ⟨ret_int (by simp), by (repeat' (first | (with_reducible exact Below.refl _ _) | (with_reducible assumption) | (with_reducible refine below_drewN ?_ _) | (with_reducible refine Below.drew ?_) | ((with_reducible refine Below.alloc ?_ ?_ _); (rotate_left; focus (first | omega | (simp; done) | (simp; omega)))) | ((with_reducible refine Below.setCell ?_ ?_ _); (rotate_left; focus (first | omega | (simp; done) | (simp; omega)))) | (with_reducible refine Below.grown ?_ (by assumption) (by first | omega | (simp; omega)) (by simp [Value.ownBlock]; try omega)) | (with_reducible refine below_then ?_ (Aft.below _)) | (with_reducible apply below_then; rotate_left; assumption)))⟩
  · have hr' : (rightZ k p e wh b l == 0) = false := by simpa using hr
    have hr2 : (rightZ k p e wh b l != 0) = true := by simpa using hr
    rw [mostZ_bad hr]
    go_enter Try.func24, Try.ntmps24
    go_wp2_with (first | (go_at_call 20; refine (refCright_any _ _ _ _ _ _ _).mono ?_; rintro e w' ⟨rfl, hb⟩; obtain ⟨hc, hf⟩ := bcell hb; have hz := hb.size; (try simp at hz); (try have hz1 : w.heap.size < w'.heap.size := by omega); (try have hz2 : w.heap.size + 1 < w'.heap.size := by omega); (try have hz3 : w.heap.size < w'.heap.size + 1 := by omega); (try have hz4 : w.heap.size < w'.heap.size + 1 + 1 := by omega); (try have hz5 : ¬ w.heap.size = w'.heap.size := by omega); (try have hz6 : w.heap.size + 1 + 1 < w'.heap.size := by omega)))
    go_ret
    exact ⟨ret_int (by simp), by (repeat' (first | (with_reducible exact Below.refl _ _) | (with_reducible assumption) | (with_reducible refine below_drewN ?_ _) | (with_reducible refine Below.drew ?_) | ((with_reducible refine Below.alloc ?_ ?_ _); (rotate_left; focus (first | omega | (simp; done) | (simp; omega)))) | ((with_reducible refine Below.setCell ?_ ?_ _); (rotate_left; focus (first | omega | (simp; done) | (simp; omega)))) | (with_reducible refine Below.grown ?_ (by assumption) (by first | omega | (simp; omega)) (by simp [Value.ownBlock]; try omega)) | (with_reducible refine below_then ?_ (Aft.below _)) | (with_reducible apply below_then; rotate_left; assumption)))⟩
theorem contractTells_two (k p e wh b l : Int) (w : World) (hr : rightZ k p e wh b l = 0) (hk : 2 ≤ k ∧ k ≤ 4) :
    Calls Try.prog 6 #[.agg #[.int .i64 k, .int .i64 p, .int .i64 e, .int .i64 wh, .int .i64 b, .int .i64 l]] w fun e w' => e = .returned (.bool true) ∧ Below w.heap.size w w' := by
  have hk7 : decide (k = 7 ∧ rightZ k p e wh b l = 0) = (k == 7) := by rw [Bool.eq_iff_iff]; simp [hr]
  obtain ⟨M, hM⟩ : ∃ M, mostZ k p e wh b l = M := ⟨_, rfl⟩
  have HM := Lib.hid hM
  clear hM
  go_enter Try.func6, Try.ntmps6
  go_wp2_with (first | (go_at_call 15; refine (awake06 _).mono ?_; rintro e wa ⟨rfl, hb_wa⟩; obtain ⟨hc_wa, hf_wa⟩ := bcell hb_wa; have hs_wa := hb_wa.size; (try simp at hs_wa); (try have h1_wa : w.heap.size < wa.heap.size := by omega); (try have h3_wa : w.heap.size < wa.heap.size + 1 := by omega); (try have h4_wa : w.heap.size < wa.heap.size + 1 + 1 := by omega); (try have h5_wa : ¬ w.heap.size = wa.heap.size := by omega)) | (go_at_call 20; refine (refCright_any _ _ _ _ _ _ _).mono ?_; rintro e wr ⟨rfl, hb_wr⟩; obtain ⟨hc_wr, hf_wr⟩ := bcell hb_wr; have hs_wr := hb_wr.size; (try simp at hs_wr); (try have h1_wr : w.heap.size < wr.heap.size := by omega); (try have h3_wr : w.heap.size < wr.heap.size + 1 := by omega); (try have h4_wr : w.heap.size < wr.heap.size + 1 + 1 := by omega); (try have h5_wr : ¬ w.heap.size = wr.heap.size := by omega)))
  have k0 : wr.cell? ⟨w.heap.size, 0, none⟩ = some (.int .i64 k) := by (repeat (first | (with_reducible assumption) | ((with_reducible refine cell_top ?_ rfl); first | (with_reducible rfl) | (simp; done)) | (with_reducible apply cell_drew) | (with_reducible apply cell_drewN) | ((with_reducible apply cell_keep); focus (with_reducible assumption)) | (with_reducible refine cell_keep (Aft.below _) ?_) | (with_reducible apply cell_set) | ((with_reducible apply cell_off); focus (decide)) | ((with_reducible apply cell_beside); focus (first | omega | (simp; done) | (simp; omega))) | ((with_reducible apply cell_under); focus (first | omega | (simp; done) | (simp; omega)))))
  have k1 : wr.cell? ⟨w.heap.size, 1, none⟩ = some (.int .i64 p) := by (repeat (first | (with_reducible assumption) | ((with_reducible refine cell_top ?_ rfl); first | (with_reducible rfl) | (simp; done)) | (with_reducible apply cell_drew) | (with_reducible apply cell_drewN) | ((with_reducible apply cell_keep); focus (with_reducible assumption)) | (with_reducible refine cell_keep (Aft.below _) ?_) | (with_reducible apply cell_set) | ((with_reducible apply cell_off); focus (decide)) | ((with_reducible apply cell_beside); focus (first | omega | (simp; done) | (simp; omega))) | ((with_reducible apply cell_under); focus (first | omega | (simp; done) | (simp; omega)))))
  have k2 : wr.cell? ⟨w.heap.size, 2, none⟩ = some (.int .i64 e) := by (repeat (first | (with_reducible assumption) | ((with_reducible refine cell_top ?_ rfl); first | (with_reducible rfl) | (simp; done)) | (with_reducible apply cell_drew) | (with_reducible apply cell_drewN) | ((with_reducible apply cell_keep); focus (with_reducible assumption)) | (with_reducible refine cell_keep (Aft.below _) ?_) | (with_reducible apply cell_set) | ((with_reducible apply cell_off); focus (decide)) | ((with_reducible apply cell_beside); focus (first | omega | (simp; done) | (simp; omega))) | ((with_reducible apply cell_under); focus (first | omega | (simp; done) | (simp; omega)))))
  have k3 : wr.cell? ⟨w.heap.size, 3, none⟩ = some (.int .i64 wh) := by (repeat (first | (with_reducible assumption) | ((with_reducible refine cell_top ?_ rfl); first | (with_reducible rfl) | (simp; done)) | (with_reducible apply cell_drew) | (with_reducible apply cell_drewN) | ((with_reducible apply cell_keep); focus (with_reducible assumption)) | (with_reducible refine cell_keep (Aft.below _) ?_) | (with_reducible apply cell_set) | ((with_reducible apply cell_off); focus (decide)) | ((with_reducible apply cell_beside); focus (first | omega | (simp; done) | (simp; omega))) | ((with_reducible apply cell_under); focus (first | omega | (simp; done) | (simp; omega)))))
  have k4 : wr.cell? ⟨w.heap.size, 4, none⟩ = some (.int .i64 b) := by (repeat (first | (with_reducible assumption) | ((with_reducible refine cell_top ?_ rfl); first | (with_reducible rfl) | (simp; done)) | (with_reducible apply cell_drew) | (with_reducible apply cell_drewN) | ((with_reducible apply cell_keep); focus (with_reducible assumption)) | (with_reducible refine cell_keep (Aft.below _) ?_) | (with_reducible apply cell_set) | ((with_reducible apply cell_off); focus (decide)) | ((with_reducible apply cell_beside); focus (first | omega | (simp; done) | (simp; omega))) | ((with_reducible apply cell_under); focus (first | omega | (simp; done) | (simp; omega)))))
  have k5 : wr.cell? ⟨w.heap.size, 5, none⟩ = some (.int .i64 l) := by (repeat (first | (with_reducible assumption) | ((with_reducible refine cell_top ?_ rfl); first | (with_reducible rfl) | (simp; done)) | (with_reducible apply cell_drew) | (with_reducible apply cell_drewN) | ((with_reducible apply cell_keep); focus (with_reducible assumption)) | (with_reducible refine cell_keep (Aft.below _) ?_) | (with_reducible apply cell_set) | ((with_reducible apply cell_off); focus (decide)) | ((with_reducible apply cell_beside); focus (first | omega | (simp; done) | (simp; omega))) | ((with_reducible apply cell_under); focus (first | omega | (simp; done) | (simp; omega)))))
  clear hc_wa hc_wr
  refine wp_region_segs [6, 8] [0, 1, 2, 3, 4, 5, 7, 6, 8, 9, 10, 11, 12, 13, 14, 15, 16, 17, 18, 19, 20, 21, 22, 23, 24, 25, 26, 27, 28, 29, 30] _ (by kernel_rfl) (by kernel_rfl) (by kernel_rfl) (by simp only [List.filterMap_cons, List.getElem?_cons_zero, List.getElem?_cons_succ, Option.map_some, List.filterMap_nil]; rfl) rfl rfl ?_
  refine segs_quiet_n 7 rfl ?_
  simp only [List.take_succ_cons, List.take_zero, List.drop_succ_cons, List.drop_zero, List.map_cons, List.map_nil]
  (repeat (go_big_quiet_step ((first | (go_at_call 16; exact aft_of (cright_any _ _ _ _ _ _ _)) | (go_at_call 23; exact aft_of (always_any _ _ _ _ _ _ _)) | (go_at_call 19; exact aft_of (most_any _ _ _ _ _ _ _)) | (go_at_call 24; exact aft_of (refMost_any _ _ _ _ _ _ _))))))
  refine wpQuiet_nil ?_
  refine segs_loose rfl rfl ?_
  intro g1
  refine loose_call Try.func18 (by kernel_rfl) (by kernel_rfl) ?_
  go_simp
  go_at_call 18
  refine (rules_two _ _ _ _ _ _ _ hr hk).mono ?_
  rintro en w5 ⟨ga, ca, rfl, ha1, ha2, hca, r0, r1, r2, r3, r4, r5, r6, r7, hb_w5⟩
  refine ⟨_, rfl, Ge.of hb_w5, ?_⟩
  refine segs_loose rfl rfl ?_
  intro g2
  refine loose_call Try.func22 (by kernel_rfl) (by kernel_rfl) ?_
  go_simp
  go_at_call 22
  refine (refRules_two _ _ _ _ _ _ _ hr hk).mono ?_
  rintro en w6 ⟨gb, cb, rfl, hb1, hb2, hcb, s0, s1, s2, s3, s4, s5, s6, s7, hb_w6⟩
  refine ⟨_, rfl, Ge.of hb_w6, ?_⟩
  have j0 : w6.cell? ⟨w.heap.size, 0, none⟩ = some (.int .i64 k) := by (repeat (first | (with_reducible assumption) | ((with_reducible refine cell_top ?_ rfl); first | (with_reducible rfl) | (simp; done)) | (with_reducible apply cell_drew) | (with_reducible apply cell_drewN) | ((with_reducible apply cell_keep); focus (with_reducible assumption)) | (with_reducible refine cell_keep (Aft.below _) ?_) | (with_reducible apply cell_set) | ((with_reducible apply cell_off); focus (decide)) | ((with_reducible apply cell_beside); focus (first | omega | (simp; done) | (simp; omega))) | ((with_reducible apply cell_under); focus (first | omega | (simp; done) | (simp; omega)))))
  have j1 : w6.cell? ⟨w.heap.size, 1, none⟩ = some (.int .i64 p) := by (repeat (first | (with_reducible assumption) | ((with_reducible refine cell_top ?_ rfl); first | (with_reducible rfl) | (simp; done)) | (with_reducible apply cell_drew) | (with_reducible apply cell_drewN) | ((with_reducible apply cell_keep); focus (with_reducible assumption)) | (with_reducible refine cell_keep (Aft.below _) ?_) | (with_reducible apply cell_set) | ((with_reducible apply cell_off); focus (decide)) | ((with_reducible apply cell_beside); focus (first | omega | (simp; done) | (simp; omega))) | ((with_reducible apply cell_under); focus (first | omega | (simp; done) | (simp; omega)))))
  have j2 : w6.cell? ⟨w.heap.size, 2, none⟩ = some (.int .i64 e) := by (repeat (first | (with_reducible assumption) | ((with_reducible refine cell_top ?_ rfl); first | (with_reducible rfl) | (simp; done)) | (with_reducible apply cell_drew) | (with_reducible apply cell_drewN) | ((with_reducible apply cell_keep); focus (with_reducible assumption)) | (with_reducible refine cell_keep (Aft.below _) ?_) | (with_reducible apply cell_set) | ((with_reducible apply cell_off); focus (decide)) | ((with_reducible apply cell_beside); focus (first | omega | (simp; done) | (simp; omega))) | ((with_reducible apply cell_under); focus (first | omega | (simp; done) | (simp; omega)))))
  have j3 : w6.cell? ⟨w.heap.size, 3, none⟩ = some (.int .i64 wh) := by (repeat (first | (with_reducible assumption) | ((with_reducible refine cell_top ?_ rfl); first | (with_reducible rfl) | (simp; done)) | (with_reducible apply cell_drew) | (with_reducible apply cell_drewN) | ((with_reducible apply cell_keep); focus (with_reducible assumption)) | (with_reducible refine cell_keep (Aft.below _) ?_) | (with_reducible apply cell_set) | ((with_reducible apply cell_off); focus (decide)) | ((with_reducible apply cell_beside); focus (first | omega | (simp; done) | (simp; omega))) | ((with_reducible apply cell_under); focus (first | omega | (simp; done) | (simp; omega)))))
  have j4 : w6.cell? ⟨w.heap.size, 4, none⟩ = some (.int .i64 b) := by (repeat (first | (with_reducible assumption) | ((with_reducible refine cell_top ?_ rfl); first | (with_reducible rfl) | (simp; done)) | (with_reducible apply cell_drew) | (with_reducible apply cell_drewN) | ((with_reducible apply cell_keep); focus (with_reducible assumption)) | (with_reducible refine cell_keep (Aft.below _) ?_) | (with_reducible apply cell_set) | ((with_reducible apply cell_off); focus (decide)) | ((with_reducible apply cell_beside); focus (first | omega | (simp; done) | (simp; omega))) | ((with_reducible apply cell_under); focus (first | omega | (simp; done) | (simp; omega)))))
  have j5 : w6.cell? ⟨w.heap.size, 5, none⟩ = some (.int .i64 l) := by (repeat (first | (with_reducible assumption) | ((with_reducible refine cell_top ?_ rfl); first | (with_reducible rfl) | (simp; done)) | (with_reducible apply cell_drew) | (with_reducible apply cell_drewN) | ((with_reducible apply cell_keep); focus (with_reducible assumption)) | (with_reducible refine cell_keep (Aft.below _) ?_) | (with_reducible apply cell_set) | ((with_reducible apply cell_off); focus (decide)) | ((with_reducible apply cell_beside); focus (first | omega | (simp; done) | (simp; omega))) | ((with_reducible apply cell_under); focus (first | omega | (simp; done) | (simp; omega)))))
  have t0 := cell_keep hb_w6 (cell_keep (Aft.below g2) r0)
  have t1 := cell_keep hb_w6 (cell_keep (Aft.below g2) r1)
  have t2 := cell_keep hb_w6 (cell_keep (Aft.below g2) r2)
  have t3 := cell_keep hb_w6 (cell_keep (Aft.below g2) r3)
  have t4 := cell_keep hb_w6 (cell_keep (Aft.below g2) r4)
  have t5 := cell_keep hb_w6 (cell_keep (Aft.below g2) r5)
  have t6 := cell_keep hb_w6 (cell_keep (Aft.below g2) r6)
  have t7 := cell_keep hb_w6 (cell_keep (Aft.below g2) r7)
  have z1 := g1.below.size
  have z2 := hb_w5.size
  have z3 := g2.below.size
  have z4 := hb_w6.size
  have z0 : w.heap.size < w6.heap.size := by omega
  refine segs_last ?_ ?_
  · rfl
  simp only [List.map_cons, List.map_nil]
  (repeat (go_big_quiet_step ((first | (go_at_call 16; exact aft_of (cright_any _ _ _ _ _ _ _)) | (go_at_call 23; exact aft_of (always_is _ _ _ _ _ _ _ _ hk7)) | (go_at_call 19; exact aft_of (most_any _ _ _ _ _ _ _)) | (go_at_call 24; exact aft_of (refMost_any _ _ _ _ _ _ _)) | (go_at_call 21; exact aft_of (same_two _ _ _ _ _ _ _ _ _ _ _ _ _ (cell_keep (Aft.below _) t0) (cell_keep (Aft.below _) t1) (cell_keep (Aft.below _) t2) (cell_keep (Aft.below _) t3) (cell_keep (Aft.below _) t4) (cell_keep (Aft.below _) t5) (cell_keep (Aft.below _) t6) (cell_keep (Aft.below _) t7) (cell_keep (Aft.below _) s0) (cell_keep (Aft.below _) s1) (cell_keep (Aft.below _) s2) (cell_keep (Aft.below _) s3) (cell_keep (Aft.below _) s4) (cell_keep (Aft.below _) s5) (cell_keep (Aft.below _) s6) (cell_keep (Aft.below _) s7) hca hcb))))))
  refine wpQuiet_nil ?_
  intro _ hw'
  obtain ⟨g, hw''⟩ := hw'
  subst hw''
  have hg := g.below
  go_wp2
  go_ret
  exact ⟨ret_bool (by simp), by (repeat' (first | (with_reducible exact Below.refl _ _) | (with_reducible assumption) | (with_reducible refine below_drewN ?_ _) | (with_reducible refine Below.drew ?_) | ((with_reducible refine Below.alloc ?_ ?_ _); (rotate_left; focus (first | omega | (simp; done) | (simp; omega)))) | ((with_reducible refine Below.setCell ?_ ?_ _); (rotate_left; focus (first | omega | (simp; done) | (simp; omega)))) | (with_reducible refine Below.grown ?_ (by assumption) (by first | omega | (simp; omega)) (by simp [Value.ownBlock]; try omega)) | (with_reducible refine below_then ?_ (Aft.below _)) | (with_reducible apply below_then; rotate_left; assumption)))⟩
theorem contractTells_one (k p e wh b l : Int) (w : World) (hr : rightZ k p e wh b l = 0) (hk : ¬ (2 ≤ k ∧ k ≤ 4)) :
    Calls Try.prog 6 #[.agg #[.int .i64 k, .int .i64 p, .int .i64 e, .int .i64 wh, .int .i64 b, .int .i64 l]] w fun e w' => e = .returned (.bool true) ∧ Below w.heap.size w w' := by
  have hk7 : decide (k = 7 ∧ rightZ k p e wh b l = 0) = (k == 7) := by rw [Bool.eq_iff_iff]; simp [hr]
  obtain ⟨M, hM⟩ : ∃ M, mostZ k p e wh b l = M := ⟨_, rfl⟩
  have HM := Lib.hid hM
  clear hM
  go_enter Try.func6, Try.ntmps6
  go_wp2_with (first | (go_at_call 15; refine (awake06 _).mono ?_; rintro e wa ⟨rfl, hb_wa⟩; obtain ⟨hc_wa, hf_wa⟩ := bcell hb_wa; have hs_wa := hb_wa.size; (try simp at hs_wa); (try have h1_wa : w.heap.size < wa.heap.size := by omega); (try have h3_wa : w.heap.size < wa.heap.size + 1 := by omega); (try have h4_wa : w.heap.size < wa.heap.size + 1 + 1 := by omega); (try have h5_wa : ¬ w.heap.size = wa.heap.size := by omega)) | (go_at_call 20; refine (refCright_any _ _ _ _ _ _ _).mono ?_; rintro e wr ⟨rfl, hb_wr⟩; obtain ⟨hc_wr, hf_wr⟩ := bcell hb_wr; have hs_wr := hb_wr.size; (try simp at hs_wr); (try have h1_wr : w.heap.size < wr.heap.size := by omega); (try have h3_wr : w.heap.size < wr.heap.size + 1 := by omega); (try have h4_wr : w.heap.size < wr.heap.size + 1 + 1 := by omega); (try have h5_wr : ¬ w.heap.size = wr.heap.size := by omega)))
  have k0 : wr.cell? ⟨w.heap.size, 0, none⟩ = some (.int .i64 k) := by (repeat (first | (with_reducible assumption) | ((with_reducible refine cell_top ?_ rfl); first | (with_reducible rfl) | (simp; done)) | (with_reducible apply cell_drew) | (with_reducible apply cell_drewN) | ((with_reducible apply cell_keep); focus (with_reducible assumption)) | (with_reducible refine cell_keep (Aft.below _) ?_) | (with_reducible apply cell_set) | ((with_reducible apply cell_off); focus (decide)) | ((with_reducible apply cell_beside); focus (first | omega | (simp; done) | (simp; omega))) | ((with_reducible apply cell_under); focus (first | omega | (simp; done) | (simp; omega)))))
  have k1 : wr.cell? ⟨w.heap.size, 1, none⟩ = some (.int .i64 p) := by (repeat (first | (with_reducible assumption) | ((with_reducible refine cell_top ?_ rfl); first | (with_reducible rfl) | (simp; done)) | (with_reducible apply cell_drew) | (with_reducible apply cell_drewN) | ((with_reducible apply cell_keep); focus (with_reducible assumption)) | (with_reducible refine cell_keep (Aft.below _) ?_) | (with_reducible apply cell_set) | ((with_reducible apply cell_off); focus (decide)) | ((with_reducible apply cell_beside); focus (first | omega | (simp; done) | (simp; omega))) | ((with_reducible apply cell_under); focus (first | omega | (simp; done) | (simp; omega)))))
  have k2 : wr.cell? ⟨w.heap.size, 2, none⟩ = some (.int .i64 e) := by (repeat (first | (with_reducible assumption) | ((with_reducible refine cell_top ?_ rfl); first | (with_reducible rfl) | (simp; done)) | (with_reducible apply cell_drew) | (with_reducible apply cell_drewN) | ((with_reducible apply cell_keep); focus (with_reducible assumption)) | (with_reducible refine cell_keep (Aft.below _) ?_) | (with_reducible apply cell_set) | ((with_reducible apply cell_off); focus (decide)) | ((with_reducible apply cell_beside); focus (first | omega | (simp; done) | (simp; omega))) | ((with_reducible apply cell_under); focus (first | omega | (simp; done) | (simp; omega)))))
  have k3 : wr.cell? ⟨w.heap.size, 3, none⟩ = some (.int .i64 wh) := by (repeat (first | (with_reducible assumption) | ((with_reducible refine cell_top ?_ rfl); first | (with_reducible rfl) | (simp; done)) | (with_reducible apply cell_drew) | (with_reducible apply cell_drewN) | ((with_reducible apply cell_keep); focus (with_reducible assumption)) | (with_reducible refine cell_keep (Aft.below _) ?_) | (with_reducible apply cell_set) | ((with_reducible apply cell_off); focus (decide)) | ((with_reducible apply cell_beside); focus (first | omega | (simp; done) | (simp; omega))) | ((with_reducible apply cell_under); focus (first | omega | (simp; done) | (simp; omega)))))
  have k4 : wr.cell? ⟨w.heap.size, 4, none⟩ = some (.int .i64 b) := by (repeat (first | (with_reducible assumption) | ((with_reducible refine cell_top ?_ rfl); first | (with_reducible rfl) | (simp; done)) | (with_reducible apply cell_drew) | (with_reducible apply cell_drewN) | ((with_reducible apply cell_keep); focus (with_reducible assumption)) | (with_reducible refine cell_keep (Aft.below _) ?_) | (with_reducible apply cell_set) | ((with_reducible apply cell_off); focus (decide)) | ((with_reducible apply cell_beside); focus (first | omega | (simp; done) | (simp; omega))) | ((with_reducible apply cell_under); focus (first | omega | (simp; done) | (simp; omega)))))
  have k5 : wr.cell? ⟨w.heap.size, 5, none⟩ = some (.int .i64 l) := by (repeat (first | (with_reducible assumption) | ((with_reducible refine cell_top ?_ rfl); first | (with_reducible rfl) | (simp; done)) | (with_reducible apply cell_drew) | (with_reducible apply cell_drewN) | ((with_reducible apply cell_keep); focus (with_reducible assumption)) | (with_reducible refine cell_keep (Aft.below _) ?_) | (with_reducible apply cell_set) | ((with_reducible apply cell_off); focus (decide)) | ((with_reducible apply cell_beside); focus (first | omega | (simp; done) | (simp; omega))) | ((with_reducible apply cell_under); focus (first | omega | (simp; done) | (simp; omega)))))
  clear hc_wa hc_wr
  refine wp_region_segs [6, 8] [0, 1, 2, 3, 4, 5, 7, 6, 8, 9, 10, 11, 12, 13, 14, 15, 16, 17, 18, 19, 20, 21, 22, 23, 24, 25, 26, 27, 28, 29, 30] _ (by kernel_rfl) (by kernel_rfl) (by kernel_rfl) (by simp only [List.filterMap_cons, List.getElem?_cons_zero, List.getElem?_cons_succ, Option.map_some, List.filterMap_nil]; rfl) rfl rfl ?_
  refine segs_quiet_n 7 rfl ?_
  simp only [List.take_succ_cons, List.take_zero, List.drop_succ_cons, List.drop_zero, List.map_cons, List.map_nil]
  (repeat (go_big_quiet_step ((first | (go_at_call 16; exact aft_of (cright_any _ _ _ _ _ _ _)) | (go_at_call 23; exact aft_of (always_any _ _ _ _ _ _ _)) | (go_at_call 19; exact aft_of (most_any _ _ _ _ _ _ _)) | (go_at_call 24; exact aft_of (refMost_any _ _ _ _ _ _ _))))))
  refine wpQuiet_nil ?_
  refine segs_loose rfl rfl ?_
  intro g1
  refine loose_call Try.func18 (by kernel_rfl) (by kernel_rfl) ?_
  go_simp
  go_at_call 18
  refine (rules_one _ _ _ _ _ _ _ hr hk).mono ?_
  rintro en w5 ⟨ga, ca, rfl, ha1, ha2, hca, r0, r1, r2, r3, hb_w5⟩
  refine ⟨_, rfl, Ge.of hb_w5, ?_⟩
  refine segs_loose rfl rfl ?_
  intro g2
  refine loose_call Try.func22 (by kernel_rfl) (by kernel_rfl) ?_
  go_simp
  go_at_call 22
  refine (refRules_one _ _ _ _ _ _ _ hr hk).mono ?_
  rintro en w6 ⟨gb, cb, rfl, hb1, hb2, hcb, s0, s1, s2, s3, hb_w6⟩
  refine ⟨_, rfl, Ge.of hb_w6, ?_⟩
  have j0 : w6.cell? ⟨w.heap.size, 0, none⟩ = some (.int .i64 k) := by (repeat (first | (with_reducible assumption) | ((with_reducible refine cell_top ?_ rfl); first | (with_reducible rfl) | (simp; done)) | (with_reducible apply cell_drew) | (with_reducible apply cell_drewN) | ((with_reducible apply cell_keep); focus (with_reducible assumption)) | (with_reducible refine cell_keep (Aft.below _) ?_) | (with_reducible apply cell_set) | ((with_reducible apply cell_off); focus (decide)) | ((with_reducible apply cell_beside); focus (first | omega | (simp; done) | (simp; omega))) | ((with_reducible apply cell_under); focus (first | omega | (simp; done) | (simp; omega)))))
  have j1 : w6.cell? ⟨w.heap.size, 1, none⟩ = some (.int .i64 p) := by (repeat (first | (with_reducible assumption) | ((with_reducible refine cell_top ?_ rfl); first | (with_reducible rfl) | (simp; done)) | (with_reducible apply cell_drew) | (with_reducible apply cell_drewN) | ((with_reducible apply cell_keep); focus (with_reducible assumption)) | (with_reducible refine cell_keep (Aft.below _) ?_) | (with_reducible apply cell_set) | ((with_reducible apply cell_off); focus (decide)) | ((with_reducible apply cell_beside); focus (first | omega | (simp; done) | (simp; omega))) | ((with_reducible apply cell_under); focus (first | omega | (simp; done) | (simp; omega)))))
  have j2 : w6.cell? ⟨w.heap.size, 2, none⟩ = some (.int .i64 e) := by (repeat (first | (with_reducible assumption) | ((with_reducible refine cell_top ?_ rfl); first | (with_reducible rfl) | (simp; done)) | (with_reducible apply cell_drew) | (with_reducible apply cell_drewN) | ((with_reducible apply cell_keep); focus (with_reducible assumption)) | (with_reducible refine cell_keep (Aft.below _) ?_) | (with_reducible apply cell_set) | ((with_reducible apply cell_off); focus (decide)) | ((with_reducible apply cell_beside); focus (first | omega | (simp; done) | (simp; omega))) | ((with_reducible apply cell_under); focus (first | omega | (simp; done) | (simp; omega)))))
  have j3 : w6.cell? ⟨w.heap.size, 3, none⟩ = some (.int .i64 wh) := by (repeat (first | (with_reducible assumption) | ((with_reducible refine cell_top ?_ rfl); first | (with_reducible rfl) | (simp; done)) | (with_reducible apply cell_drew) | (with_reducible apply cell_drewN) | ((with_reducible apply cell_keep); focus (with_reducible assumption)) | (with_reducible refine cell_keep (Aft.below _) ?_) | (with_reducible apply cell_set) | ((with_reducible apply cell_off); focus (decide)) | ((with_reducible apply cell_beside); focus (first | omega | (simp; done) | (simp; omega))) | ((with_reducible apply cell_under); focus (first | omega | (simp; done) | (simp; omega)))))
  have j4 : w6.cell? ⟨w.heap.size, 4, none⟩ = some (.int .i64 b) := by (repeat (first | (with_reducible assumption) | ((with_reducible refine cell_top ?_ rfl); first | (with_reducible rfl) | (simp; done)) | (with_reducible apply cell_drew) | (with_reducible apply cell_drewN) | ((with_reducible apply cell_keep); focus (with_reducible assumption)) | (with_reducible refine cell_keep (Aft.below _) ?_) | (with_reducible apply cell_set) | ((with_reducible apply cell_off); focus (decide)) | ((with_reducible apply cell_beside); focus (first | omega | (simp; done) | (simp; omega))) | ((with_reducible apply cell_under); focus (first | omega | (simp; done) | (simp; omega)))))
  have j5 : w6.cell? ⟨w.heap.size, 5, none⟩ = some (.int .i64 l) := by (repeat (first | (with_reducible assumption) | ((with_reducible refine cell_top ?_ rfl); first | (with_reducible rfl) | (simp; done)) | (with_reducible apply cell_drew) | (with_reducible apply cell_drewN) | ((with_reducible apply cell_keep); focus (with_reducible assumption)) | (with_reducible refine cell_keep (Aft.below _) ?_) | (with_reducible apply cell_set) | ((with_reducible apply cell_off); focus (decide)) | ((with_reducible apply cell_beside); focus (first | omega | (simp; done) | (simp; omega))) | ((with_reducible apply cell_under); focus (first | omega | (simp; done) | (simp; omega)))))
  have t0 := cell_keep hb_w6 (cell_keep (Aft.below g2) r0)
  have t1 := cell_keep hb_w6 (cell_keep (Aft.below g2) r1)
  have t2 := cell_keep hb_w6 (cell_keep (Aft.below g2) r2)
  have t3 := cell_keep hb_w6 (cell_keep (Aft.below g2) r3)
  have z1 := g1.below.size
  have z2 := hb_w5.size
  have z3 := g2.below.size
  have z4 := hb_w6.size
  have z0 : w.heap.size < w6.heap.size := by omega
  refine segs_last ?_ ?_
  · rfl
  simp only [List.map_cons, List.map_nil]
  (repeat (go_big_quiet_step ((first | (go_at_call 16; exact aft_of (cright_any _ _ _ _ _ _ _)) | (go_at_call 23; exact aft_of (always_is _ _ _ _ _ _ _ _ hk7)) | (go_at_call 19; exact aft_of (most_any _ _ _ _ _ _ _)) | (go_at_call 24; exact aft_of (refMost_any _ _ _ _ _ _ _)) | (go_at_call 21; exact aft_of (same_one _ _ _ _ _ _ _ _ _ (cell_keep (Aft.below _) t0) (cell_keep (Aft.below _) t1) (cell_keep (Aft.below _) t2) (cell_keep (Aft.below _) t3) (cell_keep (Aft.below _) s0) (cell_keep (Aft.below _) s1) (cell_keep (Aft.below _) s2) (cell_keep (Aft.below _) s3) hca hcb))))))
  refine wpQuiet_nil ?_
  intro _ hw'
  obtain ⟨g, hw''⟩ := hw'
  subst hw''
  have hg := g.below
  go_wp2
  go_ret
  exact ⟨ret_bool (by simp), by (repeat' (first | (with_reducible exact Below.refl _ _) | (with_reducible assumption) | (with_reducible refine below_drewN ?_ _) | (with_reducible refine Below.drew ?_) | ((with_reducible refine Below.alloc ?_ ?_ _); (rotate_left; focus (first | omega | (simp; done) | (simp; omega)))) | ((with_reducible refine Below.setCell ?_ ?_ _); (rotate_left; focus (first | omega | (simp; done) | (simp; omega)))) | (with_reducible refine Below.grown ?_ (by assumption) (by first | omega | (simp; omega)) (by simp [Value.ownBlock]; try omega)) | (with_reducible refine below_then ?_ (Aft.below _)) | (with_reducible apply below_then; rotate_left; assumption)))⟩
theorem contractTells_bad (k p e wh b l : Int) (w : World) (hr : ¬ rightZ k p e wh b l = 0) :
    Calls Try.prog 6 #[.agg #[.int .i64 k, .int .i64 p, .int .i64 e, .int .i64 wh, .int .i64 b, .int .i64 l]] w fun e w' => e = .returned (.bool true) ∧ Below w.heap.size w w' := by
  have hr' : (rightZ k p e wh b l == 0) = false := by simpa using hr
  have ha : decide (k = 7 ∧ rightZ k p e wh b l = 0) = false := by simp [hr]
  go_enter Try.func6, Try.ntmps6
  go_wp2_with (first | (go_at_call 15; refine (awake06 _).mono ?_; rintro e wa ⟨rfl, hb_wa⟩; obtain ⟨hc_wa, hf_wa⟩ := bcell hb_wa; have hs_wa := hb_wa.size; (try simp at hs_wa); (try have h1_wa : w.heap.size < wa.heap.size := by omega); (try have h3_wa : w.heap.size < wa.heap.size + 1 := by omega); (try have h4_wa : w.heap.size < wa.heap.size + 1 + 1 := by omega); (try have h5_wa : ¬ w.heap.size = wa.heap.size := by omega)) | (go_at_call 20; refine (refCright_any _ _ _ _ _ _ _).mono ?_; rintro e wr ⟨rfl, hb_wr⟩; obtain ⟨hc_wr, hf_wr⟩ := bcell hb_wr; have hs_wr := hb_wr.size; (try simp at hs_wr); (try have h1_wr : w.heap.size < wr.heap.size := by omega); (try have h3_wr : w.heap.size < wr.heap.size + 1 := by omega); (try have h4_wr : w.heap.size < wr.heap.size + 1 + 1 := by omega); (try have h5_wr : ¬ w.heap.size = wr.heap.size := by omega)))
  have k0 : wr.cell? ⟨w.heap.size, 0, none⟩ = some (.int .i64 k) := by (repeat (first | (with_reducible assumption) | ((with_reducible refine cell_top ?_ rfl); first | (with_reducible rfl) | (simp; done)) | (with_reducible apply cell_drew) | (with_reducible apply cell_drewN) | ((with_reducible apply cell_keep); focus (with_reducible assumption)) | (with_reducible refine cell_keep (Aft.below _) ?_) | (with_reducible apply cell_set) | ((with_reducible apply cell_off); focus (decide)) | ((with_reducible apply cell_beside); focus (first | omega | (simp; done) | (simp; omega))) | ((with_reducible apply cell_under); focus (first | omega | (simp; done) | (simp; omega)))))
  have k1 : wr.cell? ⟨w.heap.size, 1, none⟩ = some (.int .i64 p) := by (repeat (first | (with_reducible assumption) | ((with_reducible refine cell_top ?_ rfl); first | (with_reducible rfl) | (simp; done)) | (with_reducible apply cell_drew) | (with_reducible apply cell_drewN) | ((with_reducible apply cell_keep); focus (with_reducible assumption)) | (with_reducible refine cell_keep (Aft.below _) ?_) | (with_reducible apply cell_set) | ((with_reducible apply cell_off); focus (decide)) | ((with_reducible apply cell_beside); focus (first | omega | (simp; done) | (simp; omega))) | ((with_reducible apply cell_under); focus (first | omega | (simp; done) | (simp; omega)))))
  have k2 : wr.cell? ⟨w.heap.size, 2, none⟩ = some (.int .i64 e) := by (repeat (first | (with_reducible assumption) | ((with_reducible refine cell_top ?_ rfl); first | (with_reducible rfl) | (simp; done)) | (with_reducible apply cell_drew) | (with_reducible apply cell_drewN) | ((with_reducible apply cell_keep); focus (with_reducible assumption)) | (with_reducible refine cell_keep (Aft.below _) ?_) | (with_reducible apply cell_set) | ((with_reducible apply cell_off); focus (decide)) | ((with_reducible apply cell_beside); focus (first | omega | (simp; done) | (simp; omega))) | ((with_reducible apply cell_under); focus (first | omega | (simp; done) | (simp; omega)))))
  have k3 : wr.cell? ⟨w.heap.size, 3, none⟩ = some (.int .i64 wh) := by (repeat (first | (with_reducible assumption) | ((with_reducible refine cell_top ?_ rfl); first | (with_reducible rfl) | (simp; done)) | (with_reducible apply cell_drew) | (with_reducible apply cell_drewN) | ((with_reducible apply cell_keep); focus (with_reducible assumption)) | (with_reducible refine cell_keep (Aft.below _) ?_) | (with_reducible apply cell_set) | ((with_reducible apply cell_off); focus (decide)) | ((with_reducible apply cell_beside); focus (first | omega | (simp; done) | (simp; omega))) | ((with_reducible apply cell_under); focus (first | omega | (simp; done) | (simp; omega)))))
  have k4 : wr.cell? ⟨w.heap.size, 4, none⟩ = some (.int .i64 b) := by (repeat (first | (with_reducible assumption) | ((with_reducible refine cell_top ?_ rfl); first | (with_reducible rfl) | (simp; done)) | (with_reducible apply cell_drew) | (with_reducible apply cell_drewN) | ((with_reducible apply cell_keep); focus (with_reducible assumption)) | (with_reducible refine cell_keep (Aft.below _) ?_) | (with_reducible apply cell_set) | ((with_reducible apply cell_off); focus (decide)) | ((with_reducible apply cell_beside); focus (first | omega | (simp; done) | (simp; omega))) | ((with_reducible apply cell_under); focus (first | omega | (simp; done) | (simp; omega)))))
  have k5 : wr.cell? ⟨w.heap.size, 5, none⟩ = some (.int .i64 l) := by (repeat (first | (with_reducible assumption) | ((with_reducible refine cell_top ?_ rfl); first | (with_reducible rfl) | (simp; done)) | (with_reducible apply cell_drew) | (with_reducible apply cell_drewN) | ((with_reducible apply cell_keep); focus (with_reducible assumption)) | (with_reducible refine cell_keep (Aft.below _) ?_) | (with_reducible apply cell_set) | ((with_reducible apply cell_off); focus (decide)) | ((with_reducible apply cell_beside); focus (first | omega | (simp; done) | (simp; omega))) | ((with_reducible apply cell_under); focus (first | omega | (simp; done) | (simp; omega)))))
  clear hc_wa hc_wr
  refine wp_region_hold (by kernel_rfl) (by kernel_rfl) ?_
  (repeat (go_big_quiet_step ((first | (go_at_call 16; exact aft_of (cright_any _ _ _ _ _ _ _)) | (go_at_call 23; exact aft_of (always_is _ _ _ _ _ _ _ _ ha)) | (go_at_call 19; exact aft_of (most_any _ _ _ _ _ _ _)) | (go_at_call 24; exact aft_of (refMost_any _ _ _ _ _ _ _)) | (go_at_call 21; exact aft_of (same_nil _)) | (go_at_call 18; exact aft_of (rules_bad _ _ _ _ _ _ _ hr)) | (go_at_call 22; exact aft_of (refRules_bad _ _ _ _ _ _ _ hr))))))
  refine wpQuiet_nil ?_
  intro _ hw'
  obtain ⟨g, hw''⟩ := hw'
  subst hw''
  have hg := g.below
  go_wp2
  go_ret
  exact ⟨ret_bool (by simp), by (repeat' (first | (with_reducible exact Below.refl _ _) | (with_reducible assumption) | (with_reducible refine below_drewN ?_ _) | (with_reducible refine Below.drew ?_) | ((with_reducible refine Below.alloc ?_ ?_ _); (rotate_left; focus (first | omega | (simp; done) | (simp; omega)))) | ((with_reducible refine Below.setCell ?_ ?_ _); (rotate_left; focus (first | omega | (simp; done) | (simp; omega)))) | (with_reducible refine Below.grown ?_ (by assumption) (by first | omega | (simp; omega)) (by simp [Value.ownBlock]; try omega)) | (with_reducible refine below_then ?_ (Aft.below _)) | (with_reducible apply below_then; rotate_left; assumption)))⟩
theorem contractTells_any (k p e wh b l : Int) (w : World) :
    Calls Try.prog 6 #[.agg #[.int .i64 k, .int .i64 p, .int .i64 e, .int .i64 wh, .int .i64 b, .int .i64 l]] w fun e w' => e = .returned (.bool true) ∧ Below w.heap.size w w' := by
  by_cases hr : rightZ k p e wh b l = 0
  · by_cases hk : 2 ≤ k ∧ k ≤ 4
    · exact contractTells_two k p e wh b l w hr hk
    · exact contractTells_one k p e wh b l w hr hk
  · exact contractTells_bad k p e wh b l w hr
end Go.Proofs.Ytndmmhljphlhjaa
