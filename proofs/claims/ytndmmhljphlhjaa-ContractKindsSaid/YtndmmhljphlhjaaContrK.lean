/- The walk of the law ContractKinds. -/
import Derived.Test.YtndmmhljphlhjaaContrT
namespace Go.Proofs.Ytndmmhljphlhjaa
set_option linter.unusedVariables false
set_option linter.unusedSimpArgs false
open Go.RowKit
set_option maxRecDepth 100000
set_option maxHeartbeats 4000000
theorem vbr_right {k k' p e wh b l : Int} (hk : 2 ≤ k ∧ k ≤ 4) (hk' : 2 ≤ k' ∧ k' ≤ 4) (h : rightZ k p e wh b l = 0) : rightZ k' p e wh b l = 0 := by
  have hf := rightZ_zero.1 h
  refine rightZ_zero.2 ?_
  unfold FineP at hf ⊢
  omega
theorem vbr_wrong {k p e wh b l : Int} (hk : 2 ≤ k ∧ k ≤ 4) (h : ¬ rightZ k p e wh b l = 0) : rightZ k p e wh b l = 11 := by
  refine (rightZ_of (Or.inr ⟨by omega, Or.inr ⟨?_, rfl⟩⟩)).symm
  intro hf
  exact h (rightZ_zero.2 hf)
theorem kinds_lo (k p e wh b l kd k' : Int) (w : World) (kd0 : 0 ≤ kd) (kd1 : kd < 256) (hk' : 2 + kd % 3 = k') (hk : k < 2) (c d : Bool) (hc : (rightZ k p e wh b l == 0) = c) (hd : (rightZ k' p e wh b l == 0) = d) (hcn : (rightZ k p e wh b l != 0) = !c) (hdn : (rightZ k' p e wh b l != 0) = !d) (hcd : (!c || !d) = true) :
    Calls Try.prog 5 #[.agg #[.int .i64 k, .int .i64 p, .int .i64 e, .int .i64 wh, .int .i64 b, .int .i64 l], .int .u8 kd] w fun e w' => e = .returned (.bool true) ∧ Below w.heap.size w w' := by
  cases c <;> cases d <;> simp only [Bool.or_true, Bool.or_false, Bool.not_true, Bool.not_false, Bool.false_eq_true] at hcd hcn hdn
  all_goals
    go_enter Try.func5, Try.ntmps5
    go_wp2_with (first | (go_at_call 15; refine (awake06 _).mono ?_; rintro e wa ⟨rfl, hb_wa⟩; obtain ⟨hc_wa, hf_wa⟩ := bcell hb_wa; have hs_wa := hb_wa.size; (try simp at hs_wa); (try have h1_wa : w.heap.size < wa.heap.size := by omega); (try have h3_wa : w.heap.size < wa.heap.size + 1 := by omega); (try have h4_wa : w.heap.size < wa.heap.size + 1 + 1 := by omega); (try have h5_wa : ¬ w.heap.size = wa.heap.size := by omega)))
    have h2 : wa.heap.size < wa.heap.size + 1 := (by omega)
    have c0 : wa.cell? ⟨w.heap.size, 0, none⟩ = some (.int .i64 k) := by (repeat (first | (with_reducible assumption) | ((with_reducible refine cell_top ?_ rfl); first | (with_reducible rfl) | (simp; done)) | (with_reducible apply cell_drew) | (with_reducible apply cell_drewN) | ((with_reducible apply cell_keep); focus (with_reducible assumption)) | (with_reducible refine cell_keep (Aft.below _) ?_) | (with_reducible apply cell_set) | ((with_reducible apply cell_off); focus (decide)) | ((with_reducible apply cell_beside); focus (first | omega | (simp; done) | (simp; omega))) | ((with_reducible apply cell_under); focus (first | omega | (simp; done) | (simp; omega)))))
    have c1 : wa.cell? ⟨w.heap.size, 1, none⟩ = some (.int .i64 p) := by (repeat (first | (with_reducible assumption) | ((with_reducible refine cell_top ?_ rfl); first | (with_reducible rfl) | (simp; done)) | (with_reducible apply cell_drew) | (with_reducible apply cell_drewN) | ((with_reducible apply cell_keep); focus (with_reducible assumption)) | (with_reducible refine cell_keep (Aft.below _) ?_) | (with_reducible apply cell_set) | ((with_reducible apply cell_off); focus (decide)) | ((with_reducible apply cell_beside); focus (first | omega | (simp; done) | (simp; omega))) | ((with_reducible apply cell_under); focus (first | omega | (simp; done) | (simp; omega)))))
    have c2 : wa.cell? ⟨w.heap.size, 2, none⟩ = some (.int .i64 e) := by (repeat (first | (with_reducible assumption) | ((with_reducible refine cell_top ?_ rfl); first | (with_reducible rfl) | (simp; done)) | (with_reducible apply cell_drew) | (with_reducible apply cell_drewN) | ((with_reducible apply cell_keep); focus (with_reducible assumption)) | (with_reducible refine cell_keep (Aft.below _) ?_) | (with_reducible apply cell_set) | ((with_reducible apply cell_off); focus (decide)) | ((with_reducible apply cell_beside); focus (first | omega | (simp; done) | (simp; omega))) | ((with_reducible apply cell_under); focus (first | omega | (simp; done) | (simp; omega)))))
    have c3 : wa.cell? ⟨w.heap.size, 3, none⟩ = some (.int .i64 wh) := by (repeat (first | (with_reducible assumption) | ((with_reducible refine cell_top ?_ rfl); first | (with_reducible rfl) | (simp; done)) | (with_reducible apply cell_drew) | (with_reducible apply cell_drewN) | ((with_reducible apply cell_keep); focus (with_reducible assumption)) | (with_reducible refine cell_keep (Aft.below _) ?_) | (with_reducible apply cell_set) | ((with_reducible apply cell_off); focus (decide)) | ((with_reducible apply cell_beside); focus (first | omega | (simp; done) | (simp; omega))) | ((with_reducible apply cell_under); focus (first | omega | (simp; done) | (simp; omega)))))
    have c4 : wa.cell? ⟨w.heap.size, 4, none⟩ = some (.int .i64 b) := by (repeat (first | (with_reducible assumption) | ((with_reducible refine cell_top ?_ rfl); first | (with_reducible rfl) | (simp; done)) | (with_reducible apply cell_drew) | (with_reducible apply cell_drewN) | ((with_reducible apply cell_keep); focus (with_reducible assumption)) | (with_reducible refine cell_keep (Aft.below _) ?_) | (with_reducible apply cell_set) | ((with_reducible apply cell_off); focus (decide)) | ((with_reducible apply cell_beside); focus (first | omega | (simp; done) | (simp; omega))) | ((with_reducible apply cell_under); focus (first | omega | (simp; done) | (simp; omega)))))
    have c5 : wa.cell? ⟨w.heap.size, 5, none⟩ = some (.int .i64 l) := by (repeat (first | (with_reducible assumption) | ((with_reducible refine cell_top ?_ rfl); first | (with_reducible rfl) | (simp; done)) | (with_reducible apply cell_drew) | (with_reducible apply cell_drewN) | ((with_reducible apply cell_keep); focus (with_reducible assumption)) | (with_reducible refine cell_keep (Aft.below _) ?_) | (with_reducible apply cell_set) | ((with_reducible apply cell_off); focus (decide)) | ((with_reducible apply cell_beside); focus (first | omega | (simp; done) | (simp; omega))) | ((with_reducible apply cell_under); focus (first | omega | (simp; done) | (simp; omega)))))
    clear hc_wa
    refine wp_region_hold (by kernel_rfl) (by kernel_rfl) ?_
    (repeat (go_big_quiet_step ((first | (go_at_call 16; exact aft_of (cright_any _ _ _ _ _ _ _))))))
    refine wpQuiet_nil ?_
    intro _ hw'
    obtain ⟨g9, hw''⟩ := hw'
    subst hw''
    have hg9 := g9.below
    go_wp2
    go_ret
    exact ⟨ret_bool (by simp), by (repeat' (first | (with_reducible exact Below.refl _ _) | (with_reducible assumption) | (with_reducible refine below_drewN ?_ _) | (with_reducible refine Below.drew ?_) | ((with_reducible refine Below.alloc ?_ ?_ _); (rotate_left; focus (first | omega | (simp; done) | (simp; omega)))) | ((with_reducible refine Below.setCell ?_ ?_ _); (rotate_left; focus (first | omega | (simp; done) | (simp; omega)))) | (with_reducible refine Below.grown ?_ (by assumption) (by first | omega | (simp; omega)) (by simp [Value.ownBlock]; try omega)) | (with_reducible refine below_then ?_ (Aft.below _)) | (with_reducible apply below_then; rotate_left; assumption)))⟩
theorem kinds_hi (k p e wh b l kd k' : Int) (w : World) (kd0 : 0 ≤ kd) (kd1 : kd < 256) (hk' : 2 + kd % 3 = k') (hk : 4 < k) (hk2 : ¬ k < 2) (c d : Bool) (hc : (rightZ k p e wh b l == 0) = c) (hd : (rightZ k' p e wh b l == 0) = d) (hcn : (rightZ k p e wh b l != 0) = !c) (hdn : (rightZ k' p e wh b l != 0) = !d) (hcd : (!c || !d) = true) :
    Calls Try.prog 5 #[.agg #[.int .i64 k, .int .i64 p, .int .i64 e, .int .i64 wh, .int .i64 b, .int .i64 l], .int .u8 kd] w fun e w' => e = .returned (.bool true) ∧ Below w.heap.size w w' := by
  cases c <;> cases d <;> simp only [Bool.or_true, Bool.or_false, Bool.not_true, Bool.not_false, Bool.false_eq_true] at hcd hcn hdn
  all_goals
    go_enter Try.func5, Try.ntmps5
    go_wp2_with (first | (go_at_call 15; refine (awake06 _).mono ?_; rintro e wa ⟨rfl, hb_wa⟩; obtain ⟨hc_wa, hf_wa⟩ := bcell hb_wa; have hs_wa := hb_wa.size; (try simp at hs_wa); (try have h1_wa : w.heap.size < wa.heap.size := by omega); (try have h3_wa : w.heap.size < wa.heap.size + 1 := by omega); (try have h4_wa : w.heap.size < wa.heap.size + 1 + 1 := by omega); (try have h5_wa : ¬ w.heap.size = wa.heap.size := by omega)))
    have h2 : wa.heap.size < wa.heap.size + 1 := (by omega)
    have c0 : wa.cell? ⟨w.heap.size, 0, none⟩ = some (.int .i64 k) := by (repeat (first | (with_reducible assumption) | ((with_reducible refine cell_top ?_ rfl); first | (with_reducible rfl) | (simp; done)) | (with_reducible apply cell_drew) | (with_reducible apply cell_drewN) | ((with_reducible apply cell_keep); focus (with_reducible assumption)) | (with_reducible refine cell_keep (Aft.below _) ?_) | (with_reducible apply cell_set) | ((with_reducible apply cell_off); focus (decide)) | ((with_reducible apply cell_beside); focus (first | omega | (simp; done) | (simp; omega))) | ((with_reducible apply cell_under); focus (first | omega | (simp; done) | (simp; omega)))))
    have c1 : wa.cell? ⟨w.heap.size, 1, none⟩ = some (.int .i64 p) := by (repeat (first | (with_reducible assumption) | ((with_reducible refine cell_top ?_ rfl); first | (with_reducible rfl) | (simp; done)) | (with_reducible apply cell_drew) | (with_reducible apply cell_drewN) | ((with_reducible apply cell_keep); focus (with_reducible assumption)) | (with_reducible refine cell_keep (Aft.below _) ?_) | (with_reducible apply cell_set) | ((with_reducible apply cell_off); focus (decide)) | ((with_reducible apply cell_beside); focus (first | omega | (simp; done) | (simp; omega))) | ((with_reducible apply cell_under); focus (first | omega | (simp; done) | (simp; omega)))))
    have c2 : wa.cell? ⟨w.heap.size, 2, none⟩ = some (.int .i64 e) := by (repeat (first | (with_reducible assumption) | ((with_reducible refine cell_top ?_ rfl); first | (with_reducible rfl) | (simp; done)) | (with_reducible apply cell_drew) | (with_reducible apply cell_drewN) | ((with_reducible apply cell_keep); focus (with_reducible assumption)) | (with_reducible refine cell_keep (Aft.below _) ?_) | (with_reducible apply cell_set) | ((with_reducible apply cell_off); focus (decide)) | ((with_reducible apply cell_beside); focus (first | omega | (simp; done) | (simp; omega))) | ((with_reducible apply cell_under); focus (first | omega | (simp; done) | (simp; omega)))))
    have c3 : wa.cell? ⟨w.heap.size, 3, none⟩ = some (.int .i64 wh) := by (repeat (first | (with_reducible assumption) | ((with_reducible refine cell_top ?_ rfl); first | (with_reducible rfl) | (simp; done)) | (with_reducible apply cell_drew) | (with_reducible apply cell_drewN) | ((with_reducible apply cell_keep); focus (with_reducible assumption)) | (with_reducible refine cell_keep (Aft.below _) ?_) | (with_reducible apply cell_set) | ((with_reducible apply cell_off); focus (decide)) | ((with_reducible apply cell_beside); focus (first | omega | (simp; done) | (simp; omega))) | ((with_reducible apply cell_under); focus (first | omega | (simp; done) | (simp; omega)))))
    have c4 : wa.cell? ⟨w.heap.size, 4, none⟩ = some (.int .i64 b) := by (repeat (first | (with_reducible assumption) | ((with_reducible refine cell_top ?_ rfl); first | (with_reducible rfl) | (simp; done)) | (with_reducible apply cell_drew) | (with_reducible apply cell_drewN) | ((with_reducible apply cell_keep); focus (with_reducible assumption)) | (with_reducible refine cell_keep (Aft.below _) ?_) | (with_reducible apply cell_set) | ((with_reducible apply cell_off); focus (decide)) | ((with_reducible apply cell_beside); focus (first | omega | (simp; done) | (simp; omega))) | ((with_reducible apply cell_under); focus (first | omega | (simp; done) | (simp; omega)))))
    have c5 : wa.cell? ⟨w.heap.size, 5, none⟩ = some (.int .i64 l) := by (repeat (first | (with_reducible assumption) | ((with_reducible refine cell_top ?_ rfl); first | (with_reducible rfl) | (simp; done)) | (with_reducible apply cell_drew) | (with_reducible apply cell_drewN) | ((with_reducible apply cell_keep); focus (with_reducible assumption)) | (with_reducible refine cell_keep (Aft.below _) ?_) | (with_reducible apply cell_set) | ((with_reducible apply cell_off); focus (decide)) | ((with_reducible apply cell_beside); focus (first | omega | (simp; done) | (simp; omega))) | ((with_reducible apply cell_under); focus (first | omega | (simp; done) | (simp; omega)))))
    clear hc_wa
    refine wp_region_hold (by kernel_rfl) (by kernel_rfl) ?_
    (repeat (go_big_quiet_step ((first | (go_at_call 16; exact aft_of (cright_any _ _ _ _ _ _ _))))))
    refine wpQuiet_nil ?_
    intro _ hw'
    obtain ⟨g9, hw''⟩ := hw'
    subst hw''
    have hg9 := g9.below
    go_wp2
    go_ret
    exact ⟨ret_bool (by simp), by (repeat' (first | (with_reducible exact Below.refl _ _) | (with_reducible assumption) | (with_reducible refine below_drewN ?_ _) | (with_reducible refine Below.drew ?_) | ((with_reducible refine Below.alloc ?_ ?_ _); (rotate_left; focus (first | omega | (simp; done) | (simp; omega)))) | ((with_reducible refine Below.setCell ?_ ?_ _); (rotate_left; focus (first | omega | (simp; done) | (simp; omega)))) | (with_reducible refine Below.grown ?_ (by assumption) (by first | omega | (simp; omega)) (by simp [Value.ownBlock]; try omega)) | (with_reducible refine below_then ?_ (Aft.below _)) | (with_reducible apply below_then; rotate_left; assumption)))⟩
theorem kinds_bad (k p e wh b l kd k' : Int) (w : World) (kd0 : 0 ≤ kd) (kd1 : kd < 256) (hk' : 2 + kd % 3 = k') (k1 : ¬ k < 2) (k2 : ¬ 4 < k) (hc : ¬ rightZ k p e wh b l = 0) (hd : ¬ rightZ k' p e wh b l = 0) (hr1 : rightZ k p e wh b l = 11) (hr2 : rightZ k' p e wh b l = 11) :
    Calls Try.prog 5 #[.agg #[.int .i64 k, .int .i64 p, .int .i64 e, .int .i64 wh, .int .i64 b, .int .i64 l], .int .u8 kd] w fun e w' => e = .returned (.bool true) ∧ Below w.heap.size w w' := by
  have m1 := mostZ_bad hc
  have m2 := mostZ_bad hd
  have HC := Lib.hid hc
  have HD := Lib.hid hd
  clear hc hd
  go_enter Try.func5, Try.ntmps5
  go_wp2_with (first | (go_at_call 15; refine (awake06 _).mono ?_; rintro e wa ⟨rfl, hb_wa⟩; obtain ⟨hc_wa, hf_wa⟩ := bcell hb_wa; have hs_wa := hb_wa.size; (try simp at hs_wa); (try have h1_wa : w.heap.size < wa.heap.size := by omega); (try have h3_wa : w.heap.size < wa.heap.size + 1 := by omega); (try have h4_wa : w.heap.size < wa.heap.size + 1 + 1 := by omega); (try have h5_wa : ¬ w.heap.size = wa.heap.size := by omega)))
  have h2 : wa.heap.size < wa.heap.size + 1 := (by omega)
  have c0 : wa.cell? ⟨w.heap.size, 0, none⟩ = some (.int .i64 k) := by (repeat (first | (with_reducible assumption) | ((with_reducible refine cell_top ?_ rfl); first | (with_reducible rfl) | (simp; done)) | (with_reducible apply cell_drew) | (with_reducible apply cell_drewN) | ((with_reducible apply cell_keep); focus (with_reducible assumption)) | (with_reducible refine cell_keep (Aft.below _) ?_) | (with_reducible apply cell_set) | ((with_reducible apply cell_off); focus (decide)) | ((with_reducible apply cell_beside); focus (first | omega | (simp; done) | (simp; omega))) | ((with_reducible apply cell_under); focus (first | omega | (simp; done) | (simp; omega)))))
  have c1 : wa.cell? ⟨w.heap.size, 1, none⟩ = some (.int .i64 p) := by (repeat (first | (with_reducible assumption) | ((with_reducible refine cell_top ?_ rfl); first | (with_reducible rfl) | (simp; done)) | (with_reducible apply cell_drew) | (with_reducible apply cell_drewN) | ((with_reducible apply cell_keep); focus (with_reducible assumption)) | (with_reducible refine cell_keep (Aft.below _) ?_) | (with_reducible apply cell_set) | ((with_reducible apply cell_off); focus (decide)) | ((with_reducible apply cell_beside); focus (first | omega | (simp; done) | (simp; omega))) | ((with_reducible apply cell_under); focus (first | omega | (simp; done) | (simp; omega)))))
  have c2 : wa.cell? ⟨w.heap.size, 2, none⟩ = some (.int .i64 e) := by (repeat (first | (with_reducible assumption) | ((with_reducible refine cell_top ?_ rfl); first | (with_reducible rfl) | (simp; done)) | (with_reducible apply cell_drew) | (with_reducible apply cell_drewN) | ((with_reducible apply cell_keep); focus (with_reducible assumption)) | (with_reducible refine cell_keep (Aft.below _) ?_) | (with_reducible apply cell_set) | ((with_reducible apply cell_off); focus (decide)) | ((with_reducible apply cell_beside); focus (first | omega | (simp; done) | (simp; omega))) | ((with_reducible apply cell_under); focus (first | omega | (simp; done) | (simp; omega)))))
  have c3 : wa.cell? ⟨w.heap.size, 3, none⟩ = some (.int .i64 wh) := by (repeat (first | (with_reducible assumption) | ((with_reducible refine cell_top ?_ rfl); first | (with_reducible rfl) | (simp; done)) | (with_reducible apply cell_drew) | (with_reducible apply cell_drewN) | ((with_reducible apply cell_keep); focus (with_reducible assumption)) | (with_reducible refine cell_keep (Aft.below _) ?_) | (with_reducible apply cell_set) | ((with_reducible apply cell_off); focus (decide)) | ((with_reducible apply cell_beside); focus (first | omega | (simp; done) | (simp; omega))) | ((with_reducible apply cell_under); focus (first | omega | (simp; done) | (simp; omega)))))
  have c4 : wa.cell? ⟨w.heap.size, 4, none⟩ = some (.int .i64 b) := by (repeat (first | (with_reducible assumption) | ((with_reducible refine cell_top ?_ rfl); first | (with_reducible rfl) | (simp; done)) | (with_reducible apply cell_drew) | (with_reducible apply cell_drewN) | ((with_reducible apply cell_keep); focus (with_reducible assumption)) | (with_reducible refine cell_keep (Aft.below _) ?_) | (with_reducible apply cell_set) | ((with_reducible apply cell_off); focus (decide)) | ((with_reducible apply cell_beside); focus (first | omega | (simp; done) | (simp; omega))) | ((with_reducible apply cell_under); focus (first | omega | (simp; done) | (simp; omega)))))
  have c5 : wa.cell? ⟨w.heap.size, 5, none⟩ = some (.int .i64 l) := by (repeat (first | (with_reducible assumption) | ((with_reducible refine cell_top ?_ rfl); first | (with_reducible rfl) | (simp; done)) | (with_reducible apply cell_drew) | (with_reducible apply cell_drewN) | ((with_reducible apply cell_keep); focus (with_reducible assumption)) | (with_reducible refine cell_keep (Aft.below _) ?_) | (with_reducible apply cell_set) | ((with_reducible apply cell_off); focus (decide)) | ((with_reducible apply cell_beside); focus (first | omega | (simp; done) | (simp; omega))) | ((with_reducible apply cell_under); focus (first | omega | (simp; done) | (simp; omega)))))
  clear hc_wa
  refine wp_region_hold (by kernel_rfl) (by kernel_rfl) ?_
  (repeat (go_big_quiet_step ((first | (go_at_call 18; exact aft_of (rules_bad _ _ _ _ _ _ _ HC.out)) | (go_at_call 18; exact aft_of (rules_bad _ _ _ _ _ _ _ HD.out))))))
  refine wpQuiet_nil ?_
  intro _ hw'
  obtain ⟨g1, hw''⟩ := hw'
  subst hw''
  have hg1 := g1.below
  have hs1 := hg1.size
  simp only [World.size_alloc] at hs1
  have z1 : w.heap.size < g1.w.heap.size := by omega
  have z2 : wa.heap.size < g1.w.heap.size := by omega
  go_wp2
  refine wp_region_hold (by kernel_rfl) (by kernel_rfl) ?_
  (repeat (go_big_quiet_step ((first | (go_at_call 16; exact aft_of (cright_any _ _ _ _ _ _ _)) | (go_at_call 19; exact aft_of (most_any _ _ _ _ _ _ _))))))
  refine wpQuiet_nil ?_
  intro _ hw'
  obtain ⟨g9, hw''⟩ := hw'
  subst hw''
  have hg9 := g9.below
  go_wp2
  go_ret
  exact ⟨ret_bool (by simp), by (repeat' (first | (with_reducible exact Below.refl _ _) | (with_reducible assumption) | (with_reducible refine below_drewN ?_ _) | (with_reducible refine Below.drew ?_) | ((with_reducible refine Below.alloc ?_ ?_ _); (rotate_left; focus (first | omega | (simp; done) | (simp; omega)))) | ((with_reducible refine Below.setCell ?_ ?_ _); (rotate_left; focus (first | omega | (simp; done) | (simp; omega)))) | (with_reducible refine Below.grown ?_ (by assumption) (by first | omega | (simp; omega)) (by simp [Value.ownBlock]; try omega)) | (with_reducible refine below_then ?_ (Aft.below _)) | (with_reducible apply below_then; rotate_left; assumption)))⟩
theorem kinds_good (k p e wh b l kd k' : Int) (w : World) (kd0 : 0 ≤ kd) (kd1 : kd < 256) (hk' : 2 + kd % 3 = k') (k1 : ¬ k < 2) (k2 : ¬ 4 < k) (hc : rightZ k p e wh b l = 0) (hd : rightZ k' p e wh b l = 0) (hv : 2 ≤ k ∧ k ≤ 4) (hv' : 2 ≤ k' ∧ k' ≤ 4) (M : Int) (hm : mostZ k p e wh b l = M) (hm' : mostZ k' p e wh b l = M)
    (z t z' t' B : Bool) (hz0 : Hid (decide (3 ≤ k) = z)) (ht0 : Hid (decide (k = 4) = t)) (hz1 : Hid (decide (3 ≤ k') = z')) (ht1 : Hid (decide (k' = 4) = t')) (hB : (k == k') = B)
    (eB : ∀ w, (binOp .eql 31 (.agg #[.int .i64 wh, .int .i64 (b + e), .bool z, .bool t]) (.agg #[.int .i64 wh, .int .i64 (b + e), .bool z', .bool t'])).run Try.prog w = .ok (.bool B) w) :
    Calls Try.prog 5 #[.agg #[.int .i64 k, .int .i64 p, .int .i64 e, .int .i64 wh, .int .i64 b, .int .i64 l], .int .u8 kd] w fun e w' => e = .returned (.bool true) ∧ Below w.heap.size w w' := by
  go_enter Try.func5, Try.ntmps5
  go_wp2_with (first | (go_at_call 15; refine (awake06 _).mono ?_; rintro e wa ⟨rfl, hb_wa⟩; obtain ⟨hc_wa, hf_wa⟩ := bcell hb_wa; have hs_wa := hb_wa.size; (try simp at hs_wa); (try have h1_wa : w.heap.size < wa.heap.size := by omega); (try have h3_wa : w.heap.size < wa.heap.size + 1 := by omega); (try have h4_wa : w.heap.size < wa.heap.size + 1 + 1 := by omega); (try have h5_wa : ¬ w.heap.size = wa.heap.size := by omega)))
  have W0 : (wa.alloc (.cells #[.int .i64 k', .int .i64 p, .int .i64 e, .int .i64 wh, .int .i64 b, .int .i64 l] 23)).heap.size = wa.heap.size + 1 := by simp
  refine wp_region_segs [1, 3] [0, 2, 1, 3, 4, 5] _ (by kernel_rfl) (by kernel_rfl) (by kernel_rfl) (by simp only [List.filterMap_cons, List.getElem?_cons_zero, List.getElem?_cons_succ, Option.map_some, List.filterMap_nil]; rfl) rfl rfl ?_
  refine segs_quiet_n 2 rfl ?_
  simp only [List.take_succ_cons, List.take_zero, List.drop_succ_cons, List.drop_zero, List.map_cons, List.map_nil]
  have c0 : wa.cell? ⟨w.heap.size, 0, none⟩ = some (.int .i64 k) := by (repeat (first | (with_reducible assumption) | ((with_reducible refine cell_top ?_ rfl); first | (with_reducible rfl) | (simp; done)) | (with_reducible apply cell_drew) | (with_reducible apply cell_drewN) | ((with_reducible apply cell_keep); focus (with_reducible assumption)) | (with_reducible refine cell_keep (Aft.below _) ?_) | (with_reducible apply cell_set) | ((with_reducible apply cell_off); focus (decide)) | ((with_reducible apply cell_beside); focus (first | omega | (simp; done) | (simp; omega))) | ((with_reducible apply cell_under); focus (first | omega | (simp; done) | (simp; omega)))))
  have c1 : wa.cell? ⟨w.heap.size, 1, none⟩ = some (.int .i64 p) := by (repeat (first | (with_reducible assumption) | ((with_reducible refine cell_top ?_ rfl); first | (with_reducible rfl) | (simp; done)) | (with_reducible apply cell_drew) | (with_reducible apply cell_drewN) | ((with_reducible apply cell_keep); focus (with_reducible assumption)) | (with_reducible refine cell_keep (Aft.below _) ?_) | (with_reducible apply cell_set) | ((with_reducible apply cell_off); focus (decide)) | ((with_reducible apply cell_beside); focus (first | omega | (simp; done) | (simp; omega))) | ((with_reducible apply cell_under); focus (first | omega | (simp; done) | (simp; omega)))))
  have c2 : wa.cell? ⟨w.heap.size, 2, none⟩ = some (.int .i64 e) := by (repeat (first | (with_reducible assumption) | ((with_reducible refine cell_top ?_ rfl); first | (with_reducible rfl) | (simp; done)) | (with_reducible apply cell_drew) | (with_reducible apply cell_drewN) | ((with_reducible apply cell_keep); focus (with_reducible assumption)) | (with_reducible refine cell_keep (Aft.below _) ?_) | (with_reducible apply cell_set) | ((with_reducible apply cell_off); focus (decide)) | ((with_reducible apply cell_beside); focus (first | omega | (simp; done) | (simp; omega))) | ((with_reducible apply cell_under); focus (first | omega | (simp; done) | (simp; omega)))))
  have c3 : wa.cell? ⟨w.heap.size, 3, none⟩ = some (.int .i64 wh) := by (repeat (first | (with_reducible assumption) | ((with_reducible refine cell_top ?_ rfl); first | (with_reducible rfl) | (simp; done)) | (with_reducible apply cell_drew) | (with_reducible apply cell_drewN) | ((with_reducible apply cell_keep); focus (with_reducible assumption)) | (with_reducible refine cell_keep (Aft.below _) ?_) | (with_reducible apply cell_set) | ((with_reducible apply cell_off); focus (decide)) | ((with_reducible apply cell_beside); focus (first | omega | (simp; done) | (simp; omega))) | ((with_reducible apply cell_under); focus (first | omega | (simp; done) | (simp; omega)))))
  have c4 : wa.cell? ⟨w.heap.size, 4, none⟩ = some (.int .i64 b) := by (repeat (first | (with_reducible assumption) | ((with_reducible refine cell_top ?_ rfl); first | (with_reducible rfl) | (simp; done)) | (with_reducible apply cell_drew) | (with_reducible apply cell_drewN) | ((with_reducible apply cell_keep); focus (with_reducible assumption)) | (with_reducible refine cell_keep (Aft.below _) ?_) | (with_reducible apply cell_set) | ((with_reducible apply cell_off); focus (decide)) | ((with_reducible apply cell_beside); focus (first | omega | (simp; done) | (simp; omega))) | ((with_reducible apply cell_under); focus (first | omega | (simp; done) | (simp; omega)))))
  have c5 : wa.cell? ⟨w.heap.size, 5, none⟩ = some (.int .i64 l) := by (repeat (first | (with_reducible assumption) | ((with_reducible refine cell_top ?_ rfl); first | (with_reducible rfl) | (simp; done)) | (with_reducible apply cell_drew) | (with_reducible apply cell_drewN) | ((with_reducible apply cell_keep); focus (with_reducible assumption)) | (with_reducible refine cell_keep (Aft.below _) ?_) | (with_reducible apply cell_set) | ((with_reducible apply cell_off); focus (decide)) | ((with_reducible apply cell_beside); focus (first | omega | (simp; done) | (simp; omega))) | ((with_reducible apply cell_under); focus (first | omega | (simp; done) | (simp; omega)))))
  clear hc_wa
  (repeat (go_big_quiet_step (fail)))
  refine wpQuiet_nil ?_
  refine segs_loose rfl rfl ?_
  intro g1
  refine loose_call Try.func18 (by kernel_rfl) (by kernel_rfl) ?_
  go_simp
  go_at_call 18
  refine (rules_two _ _ _ _ _ _ _ hc hv).mono ?_
  rintro en w5 ⟨ga, ca, rfl, hga1, hga2, hca, r0, r1, r2, r3, r4, r5, r6, r7, hb_w5⟩
  rw [hz0.out] at r6
  rw [ht0.out] at r7
  refine ⟨_, rfl, Ge.of hb_w5, ?_⟩
  refine segs_loose rfl rfl ?_
  intro g2
  refine loose_call Try.func18 (by kernel_rfl) (by kernel_rfl) ?_
  go_simp
  go_at_call 18
  refine (rules_two _ _ _ _ _ _ _ hd hv').mono ?_
  rintro en w6 ⟨gb, cb, rfl, hgb1, hgb2, hcb, s0, s1, s2, s3, s4, s5, s6, s7, hb_w6⟩
  rw [hz1.out] at s6
  rw [ht1.out] at s7
  refine ⟨_, rfl, Ge.of hb_w6, ?_⟩
  have z1 := g1.below.size
  have z2 := hb_w5.size
  have z3 := g2.below.size
  have z4 := hb_w6.size
  simp only [World.size_alloc] at z1
  have y0 : w.heap.size < w6.heap.size := by omega
  have y1 : wa.heap.size < w6.heap.size := by omega
  have y2 : ga < w6.heap.size := by omega
  have jc0 : w6.cell? ⟨w.heap.size, 0, none⟩ = some (.int .i64 k) := by (repeat (first | (with_reducible assumption) | ((with_reducible refine cell_top ?_ rfl); first | (with_reducible rfl) | (simp; done)) | (with_reducible apply cell_drew) | (with_reducible apply cell_drewN) | ((with_reducible apply cell_keep); focus (with_reducible assumption)) | (with_reducible refine cell_keep (Aft.below _) ?_) | (with_reducible apply cell_set) | ((with_reducible apply cell_off); focus (decide)) | ((with_reducible apply cell_beside); focus (first | omega | (simp; done) | (simp; omega))) | ((with_reducible apply cell_under); focus (first | omega | (simp; done) | (simp; omega)))))
  have jc1 : w6.cell? ⟨w.heap.size, 1, none⟩ = some (.int .i64 p) := by (repeat (first | (with_reducible assumption) | ((with_reducible refine cell_top ?_ rfl); first | (with_reducible rfl) | (simp; done)) | (with_reducible apply cell_drew) | (with_reducible apply cell_drewN) | ((with_reducible apply cell_keep); focus (with_reducible assumption)) | (with_reducible refine cell_keep (Aft.below _) ?_) | (with_reducible apply cell_set) | ((with_reducible apply cell_off); focus (decide)) | ((with_reducible apply cell_beside); focus (first | omega | (simp; done) | (simp; omega))) | ((with_reducible apply cell_under); focus (first | omega | (simp; done) | (simp; omega)))))
  have jc2 : w6.cell? ⟨w.heap.size, 2, none⟩ = some (.int .i64 e) := by (repeat (first | (with_reducible assumption) | ((with_reducible refine cell_top ?_ rfl); first | (with_reducible rfl) | (simp; done)) | (with_reducible apply cell_drew) | (with_reducible apply cell_drewN) | ((with_reducible apply cell_keep); focus (with_reducible assumption)) | (with_reducible refine cell_keep (Aft.below _) ?_) | (with_reducible apply cell_set) | ((with_reducible apply cell_off); focus (decide)) | ((with_reducible apply cell_beside); focus (first | omega | (simp; done) | (simp; omega))) | ((with_reducible apply cell_under); focus (first | omega | (simp; done) | (simp; omega)))))
  have jc3 : w6.cell? ⟨w.heap.size, 3, none⟩ = some (.int .i64 wh) := by (repeat (first | (with_reducible assumption) | ((with_reducible refine cell_top ?_ rfl); first | (with_reducible rfl) | (simp; done)) | (with_reducible apply cell_drew) | (with_reducible apply cell_drewN) | ((with_reducible apply cell_keep); focus (with_reducible assumption)) | (with_reducible refine cell_keep (Aft.below _) ?_) | (with_reducible apply cell_set) | ((with_reducible apply cell_off); focus (decide)) | ((with_reducible apply cell_beside); focus (first | omega | (simp; done) | (simp; omega))) | ((with_reducible apply cell_under); focus (first | omega | (simp; done) | (simp; omega)))))
  have jc4 : w6.cell? ⟨w.heap.size, 4, none⟩ = some (.int .i64 b) := by (repeat (first | (with_reducible assumption) | ((with_reducible refine cell_top ?_ rfl); first | (with_reducible rfl) | (simp; done)) | (with_reducible apply cell_drew) | (with_reducible apply cell_drewN) | ((with_reducible apply cell_keep); focus (with_reducible assumption)) | (with_reducible refine cell_keep (Aft.below _) ?_) | (with_reducible apply cell_set) | ((with_reducible apply cell_off); focus (decide)) | ((with_reducible apply cell_beside); focus (first | omega | (simp; done) | (simp; omega))) | ((with_reducible apply cell_under); focus (first | omega | (simp; done) | (simp; omega)))))
  have jc5 : w6.cell? ⟨w.heap.size, 5, none⟩ = some (.int .i64 l) := by (repeat (first | (with_reducible assumption) | ((with_reducible refine cell_top ?_ rfl); first | (with_reducible rfl) | (simp; done)) | (with_reducible apply cell_drew) | (with_reducible apply cell_drewN) | ((with_reducible apply cell_keep); focus (with_reducible assumption)) | (with_reducible refine cell_keep (Aft.below _) ?_) | (with_reducible apply cell_set) | ((with_reducible apply cell_off); focus (decide)) | ((with_reducible apply cell_beside); focus (first | omega | (simp; done) | (simp; omega))) | ((with_reducible apply cell_under); focus (first | omega | (simp; done) | (simp; omega)))))
  have jd0 : w6.cell? ⟨wa.heap.size, 0, none⟩ = some (.int .i64 k') := by (repeat (first | (with_reducible assumption) | ((with_reducible refine cell_top ?_ rfl); first | (with_reducible rfl) | (simp; done)) | (with_reducible apply cell_drew) | (with_reducible apply cell_drewN) | ((with_reducible apply cell_keep); focus (with_reducible assumption)) | (with_reducible refine cell_keep (Aft.below _) ?_) | (with_reducible apply cell_set) | ((with_reducible apply cell_off); focus (decide)) | ((with_reducible apply cell_beside); focus (first | omega | (simp; done) | (simp; omega))) | ((with_reducible apply cell_under); focus (first | omega | (simp; done) | (simp; omega)))))
  have jd1 : w6.cell? ⟨wa.heap.size, 1, none⟩ = some (.int .i64 p) := by (repeat (first | (with_reducible assumption) | ((with_reducible refine cell_top ?_ rfl); first | (with_reducible rfl) | (simp; done)) | (with_reducible apply cell_drew) | (with_reducible apply cell_drewN) | ((with_reducible apply cell_keep); focus (with_reducible assumption)) | (with_reducible refine cell_keep (Aft.below _) ?_) | (with_reducible apply cell_set) | ((with_reducible apply cell_off); focus (decide)) | ((with_reducible apply cell_beside); focus (first | omega | (simp; done) | (simp; omega))) | ((with_reducible apply cell_under); focus (first | omega | (simp; done) | (simp; omega)))))
  have jd2 : w6.cell? ⟨wa.heap.size, 2, none⟩ = some (.int .i64 e) := by (repeat (first | (with_reducible assumption) | ((with_reducible refine cell_top ?_ rfl); first | (with_reducible rfl) | (simp; done)) | (with_reducible apply cell_drew) | (with_reducible apply cell_drewN) | ((with_reducible apply cell_keep); focus (with_reducible assumption)) | (with_reducible refine cell_keep (Aft.below _) ?_) | (with_reducible apply cell_set) | ((with_reducible apply cell_off); focus (decide)) | ((with_reducible apply cell_beside); focus (first | omega | (simp; done) | (simp; omega))) | ((with_reducible apply cell_under); focus (first | omega | (simp; done) | (simp; omega)))))
  have jd3 : w6.cell? ⟨wa.heap.size, 3, none⟩ = some (.int .i64 wh) := by (repeat (first | (with_reducible assumption) | ((with_reducible refine cell_top ?_ rfl); first | (with_reducible rfl) | (simp; done)) | (with_reducible apply cell_drew) | (with_reducible apply cell_drewN) | ((with_reducible apply cell_keep); focus (with_reducible assumption)) | (with_reducible refine cell_keep (Aft.below _) ?_) | (with_reducible apply cell_set) | ((with_reducible apply cell_off); focus (decide)) | ((with_reducible apply cell_beside); focus (first | omega | (simp; done) | (simp; omega))) | ((with_reducible apply cell_under); focus (first | omega | (simp; done) | (simp; omega)))))
  have jd4 : w6.cell? ⟨wa.heap.size, 4, none⟩ = some (.int .i64 b) := by (repeat (first | (with_reducible assumption) | ((with_reducible refine cell_top ?_ rfl); first | (with_reducible rfl) | (simp; done)) | (with_reducible apply cell_drew) | (with_reducible apply cell_drewN) | ((with_reducible apply cell_keep); focus (with_reducible assumption)) | (with_reducible refine cell_keep (Aft.below _) ?_) | (with_reducible apply cell_set) | ((with_reducible apply cell_off); focus (decide)) | ((with_reducible apply cell_beside); focus (first | omega | (simp; done) | (simp; omega))) | ((with_reducible apply cell_under); focus (first | omega | (simp; done) | (simp; omega)))))
  have jd5 : w6.cell? ⟨wa.heap.size, 5, none⟩ = some (.int .i64 l) := by (repeat (first | (with_reducible assumption) | ((with_reducible refine cell_top ?_ rfl); first | (with_reducible rfl) | (simp; done)) | (with_reducible apply cell_drew) | (with_reducible apply cell_drewN) | ((with_reducible apply cell_keep); focus (with_reducible assumption)) | (with_reducible refine cell_keep (Aft.below _) ?_) | (with_reducible apply cell_set) | ((with_reducible apply cell_off); focus (decide)) | ((with_reducible apply cell_beside); focus (first | omega | (simp; done) | (simp; omega))) | ((with_reducible apply cell_under); focus (first | omega | (simp; done) | (simp; omega)))))
  have t0 := cell_keep hb_w6 (cell_keep (Aft.below g2) r0)
  have t1 := cell_keep hb_w6 (cell_keep (Aft.below g2) r1)
  have t2 := cell_keep hb_w6 (cell_keep (Aft.below g2) r2)
  have t3 := cell_keep hb_w6 (cell_keep (Aft.below g2) r3)
  have t4 := cell_keep hb_w6 (cell_keep (Aft.below g2) r4)
  have t5 := cell_keep hb_w6 (cell_keep (Aft.below g2) r5)
  have t6 := cell_keep hb_w6 (cell_keep (Aft.below g2) r6)
  have t7 := cell_keep hb_w6 (cell_keep (Aft.below g2) r7)
  refine segs_last ?_ ?_
  · rfl
  simp only [List.map_cons, List.map_nil]
  (repeat (go_big_quiet_step (fail)))
  refine wpQuiet_nil ?_
  intro _ hw'
  obtain ⟨g3, hw''⟩ := hw'
  subst hw''
  have hg3 := g3.below
  have z5 := hg3.size
  have x0 : w.heap.size < g3.w.heap.size := by omega
  have x1 : wa.heap.size < g3.w.heap.size := by omega
  have x2 : ga < g3.w.heap.size := by omega
  have x3 : gb < g3.w.heap.size := by omega
  go_wp2
  refine wp_region_hold (by kernel_rfl) (by kernel_rfl) ?_
  (repeat (go_big_quiet_step ((first | (go_at_call 16; exact aft_of (cright_any _ _ _ _ _ _ _)) | (go_at_call 19; exact aft_of (most_any _ _ _ _ _ _ _))))))
  refine wpQuiet_nil ?_
  intro _ hw'
  obtain ⟨g4, hw''⟩ := hw'
  subst hw''
  have hg4 := g4.below
  have z6 := hg4.size
  have v0 : w.heap.size < g4.w.heap.size := by omega
  have v1 : wa.heap.size < g4.w.heap.size := by omega
  have v2 : ga < g4.w.heap.size := by omega
  have v3 : gb < g4.w.heap.size := by omega
  go_wp2
  refine wp_region_hold (by kernel_rfl) (by kernel_rfl) ?_
  (repeat (go_big_quiet_step (fail)))
  refine wpQuiet_nil ?_
  intro _ hw'
  obtain ⟨g9, hw''⟩ := hw'
  subst hw''
  have hg9 := g9.below
  go_wp2
  go_ret
  exact ⟨ret_bool (by simp), by (repeat' (first | (with_reducible exact Below.refl _ _) | (with_reducible assumption) | (with_reducible refine below_drewN ?_ _) | (with_reducible refine Below.drew ?_) | ((with_reducible refine Below.alloc ?_ ?_ _); (rotate_left; focus (first | omega | (simp; done) | (simp; omega)))) | ((with_reducible refine Below.setCell ?_ ?_ _); (rotate_left; focus (first | omega | (simp; done) | (simp; omega)))) | (with_reducible refine Below.grown ?_ (by assumption) (by first | omega | (simp; omega)) (by simp [Value.ownBlock]; try omega)) | (with_reducible refine below_then ?_ (Aft.below _)) | (with_reducible apply below_then; rotate_left; assumption)))⟩
theorem contractKinds_any (k p e wh b l kd : Int) (w : World) (kd0 : 0 ≤ kd) (kd1 : kd < 256) :
    Calls Try.prog 5 #[.agg #[.int .i64 k, .int .i64 p, .int .i64 e, .int .i64 wh, .int .i64 b, .int .i64 l], .int .u8 kd] w fun e w' => e = .returned (.bool true) ∧ Below w.heap.size w w' := by
  have hv' : 2 ≤ 2 + kd % 3 ∧ 2 + kd % 3 ≤ 4 := by omega
  by_cases hv : 2 ≤ k ∧ k ≤ 4
  · by_cases hc : rightZ k p e wh b l = 0
    · have hd := vbr_right hv hv' hc
      have hm : mostZ (2 + kd % 3) p e wh b l = mostZ k p e wh b l := by
        unfold mostZ
        simp only [hc, hd, hv, hv', true_and]
      refine kinds_good k p e wh b l kd _ w kd0 kd1 rfl (by omega) (by omega) hc hd hv hv' _ rfl hm _ _ _ _ (k == 2 + kd % 3) (Lib.hid rfl) (Lib.hid rfl) (Lib.hid rfl) (Lib.hid rfl) rfl ?_
      generalize 2 + kd % 3 = k' at hv' ⊢
      intro w
      have h1 : k = 2 ∨ k = 3 ∨ k = 4 := by omega
      have h2 : k' = 2 ∨ k' = 3 ∨ k' = 4 := by omega
      rcases h1 with rfl | rfl | rfl <;> rcases h2 with rfl | rfl | rfl <;> simp [go_sem]
    · have hd : ¬ rightZ (2 + kd % 3) p e wh b l = 0 := fun h => hc (vbr_right hv' hv h)
      exact kinds_bad k p e wh b l kd _ w kd0 kd1 rfl (by omega) (by omega) hc hd (vbr_wrong hv hc) (vbr_wrong hv' hd)
  · have hcd : (!(rightZ k p e wh b l == 0) || !(rightZ (2 + kd % 3) p e wh b l == 0)) = true := by
      by_cases hc : rightZ k p e wh b l = 0
      · have hd : ¬ rightZ (2 + kd % 3) p e wh b l = 0 := fun h => by
          have f1 := rightZ_zero.1 hc
          have f2 := rightZ_zero.1 h
          unfold FineP at f1 f2
          omega
        simp [hd]
      · simp [hc]
    by_cases h2 : k < 2
    · exact kinds_lo k p e wh b l kd _ w kd0 kd1 rfl h2 _ _ rfl rfl rfl rfl hcd
    · exact kinds_hi k p e wh b l kd _ w kd0 kd1 rfl (by omega) h2 _ _ rfl rfl rfl rfl hcd
end Go.Proofs.Ytndmmhljphlhjaa
