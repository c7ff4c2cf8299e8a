/- The walk of the law ContractMost. -/
import Derived.Test.YtndmmhljphlhjaaContrT
import Derived.Test.YtndmmhljphlhjaaBuckM
namespace Go.Proofs.Ytndmmhljphlhjaa
set_option linter.unusedVariables false
set_option linter.unusedSimpArgs false
open Go.RowKit
set_option maxRecDepth 100000
set_option maxHeartbeats 4000000
attribute [local irreducible] fitsB nextB
theorem most_fits {p wh b : Int} {k N : Nat} (hp : 1 ≤ p) (hpw : p < wh) (hw : wh ≤ 1099511627776) (hb : 0 ≤ b) (hN : (N : Int) = 1 + b / (wh - p)) (hN4 : N ≤ 400) (hk : k < N) : fitsB b ((k : Int) * wh) (decide (0 < k)) ((k : Int) * p) = true := by
  have h1 : (k : Int) ≤ b / (wh - p) := by omega
  have h2 : (k : Int) * (wh - p) ≤ b := by
    have := Int.mul_le_mul_of_nonneg_right h1 (by omega : 0 ≤ wh - p)
    have h3 := Int.ediv_mul_le b (b := wh - p) (by omega)
    omega
  have h3 : (k : Int) * (wh - p) = (k : Int) * wh - (k : Int) * p := Int.mul_sub _ _ _
  have h4 : 0 ≤ (k : Int) * p := Int.mul_nonneg (by omega) (by omega)
  have h5 : (k : Int) * p ≤ 400 * 1099511627776 := Int.mul_le_mul (by omega) (by omega) (by omega) (by omega)
  unfold fitsB
  rw [clampZ_id h4 (by omega)]
  simp
  omega
theorem most_next {p wh : Int} {k : Nat} (hp : 1 ≤ p) (hpw : p < wh) (hw : wh ≤ 1099511627776) (hk : k ≤ 400) : nextB wh ((k : Int) * wh) ((k : Int) * p) = ((k + 1 : Nat) : Int) * wh := by
  have h4 : 0 ≤ (k : Int) * p := Int.mul_nonneg (by omega) (by omega)
  have h5 : (k : Int) * p ≤ 400 * 1099511627776 := Int.mul_le_mul (by omega) (by omega) (by omega) (by omega)
  have h6 : (k : Int) * p ≤ (k : Int) * wh := Int.mul_le_mul_of_nonneg_left (by omega) (by omega)
  have h7 : ((k + 1 : Nat) : Int) * wh = (k : Int) * wh + wh := by push_cast; rw [Int.add_mul, Int.one_mul]
  unfold nextB
  rw [clampZ_id h4 (by omega), h7]
  omega
theorem most_not {p wh b : Int} {N : Nat} (hp : 1 ≤ p) (hpw : p < wh) (hw : wh ≤ 1099511627776) (hb : 0 ≤ b) (hN : (N : Int) = 1 + b / (wh - p)) (hN4 : N ≤ 400) : fitsB b ((N : Int) * wh) true ((N : Int) * p) = false := by
  have h1 : b < (b / (wh - p) + 1) * (wh - p) := Int.lt_ediv_add_one_mul_self b (by omega)
  have h2 : b < (N : Int) * (wh - p) := by rw [hN, Int.add_comm]; exact h1
  have h3 : (N : Int) * (wh - p) = (N : Int) * wh - (N : Int) * p := Int.mul_sub _ _ _
  have h4 : 0 ≤ (N : Int) * p := Int.mul_nonneg (by omega) (by omega)
  have h5 : (N : Int) * p ≤ 400 * 1099511627776 := Int.mul_le_mul (by omega) (by omega) (by omega) (by omega)
  unfold fitsB
  rw [clampZ_id h4 (by omega)]
  simp
  omega
theorem mostP_go (k p wh b l : Int) (N : Nat) (w : World) (hr : rightZ k p 0 wh b l = 0) (hk : 2 ≤ k ∧ k ≤ 4) (p0 : 1 ≤ p) (p1 : p < wh) (p2 : wh ≤ 1099511627776) (b0 : 0 ≤ b) (b1 : b ≤ 1099511627776) (hN : mostZ k p 0 wh b l = (N : Int)) (hN2 : Hid ((N : Int) = 1 + b / (wh - p))) (hN4 : N ≤ 400) (hN1 : 1 ≤ N) :
    Calls Try.prog 8 #[.agg #[.int .i64 k, .int .i64 p, .int .i64 0, .int .i64 wh, .int .i64 b, .int .i64 l]] w fun e w' => e = .returned (.bool true) ∧ Below w.heap.size w w' := by
  have n1 : ((N : Int) == 0) = false := by simp; omega
  have n2 : decide ((400 : Int) < N) = false := by simp; omega
  go_enter Try.func8, Try.ntmps8
  go_wp2_with (first | (go_at_call 15; refine (awake06 _).mono ?_; rintro e wa ⟨rfl, hb_wa⟩; obtain ⟨hc_wa, hf_wa⟩ := bcell hb_wa; have hs_wa := hb_wa.size; (try simp at hs_wa); (try have h1_wa : w.heap.size < wa.heap.size := by omega); (try have h3_wa : w.heap.size < wa.heap.size + 1 := by omega); (try have h4_wa : w.heap.size < wa.heap.size + 1 + 1 := by omega); (try have h5_wa : ¬ w.heap.size = wa.heap.size := by omega)) | (go_at_call 19; refine (most_any _ _ _ _ _ _ _).mono ?_; rintro e wm ⟨rfl, hb_wm⟩; obtain ⟨hc_wm, hf_wm⟩ := bcell hb_wm; have hs_wm := hb_wm.size; (try simp at hs_wm); (try have h1_wm : w.heap.size < wm.heap.size := by omega); (try have h3_wm : w.heap.size < wm.heap.size + 1 := by omega); (try have h4_wm : w.heap.size < wm.heap.size + 1 + 1 := by omega); (try have h5_wm : ¬ w.heap.size = wm.heap.size := by omega)) | (go_at_call 18; refine (rules_two _ _ _ _ _ _ _ hr hk).mono ?_; rintro en wl ⟨g, cap, rfl, hg1, hg2, hcap, r0, r1, r2, r3, r4, r5, r6, r7, hb_wl⟩; obtain ⟨hc_wl, hf_wl⟩ := bcell hb_wl; have hs_wl := hb_wl.size; (try simp at hs_wl); (try have h1_wl : w.heap.size < wl.heap.size := by omega); (try have h3_wl : w.heap.size < wl.heap.size + 1 := by omega)))
  have k1 : wl.cell? ⟨w.heap.size, 1, none⟩ = some (.int .i64 p) := by (repeat (first | (with_reducible assumption) | ((with_reducible refine cell_top ?_ rfl); first | (with_reducible rfl) | (simp; done)) | (with_reducible apply cell_drew) | (with_reducible apply cell_drewN) | ((with_reducible apply cell_keep); focus (with_reducible assumption)) | (with_reducible refine cell_keep (Aft.below _) ?_) | (with_reducible apply cell_set) | ((with_reducible apply cell_off); focus (decide)) | ((with_reducible apply cell_beside); focus (first | omega | (simp; done) | (simp; omega))) | ((with_reducible apply cell_under); focus (first | omega | (simp; done) | (simp; omega)))))
  clear hc_wa hc_wm hc_wl
  have hw : ∃ w2 : World, w2 = wl.drew := ⟨_, rfl⟩
  obtain ⟨w2, hw2⟩ := hw
  have e4 : w2.cell? ⟨g, 4, none⟩ = some (.int .i64 wh) := by rw [hw2]; exact r4
  have e5 : w2.cell? ⟨g, 5, none⟩ = some (.int .i64 b) := by rw [hw2]; simpa using r5
  have e1 : w2.cell? ⟨w.heap.size, 1, none⟩ = some (.int .i64 p) := by rw [hw2]; exact k1
  have es : wl.heap.size = w2.heap.size := by rw [hw2]; rfl
  have eb : Below w.heap.size w w2 := by rw [hw2]; (repeat' (first | (with_reducible exact Below.refl _ _) | (with_reducible assumption) | (with_reducible refine below_drewN ?_ _) | (with_reducible refine Below.drew ?_) | ((with_reducible refine Below.alloc ?_ ?_ _); (rotate_left; focus (first | omega | (simp; done) | (simp; omega)))) | ((with_reducible refine Below.setCell ?_ ?_ _); (rotate_left; focus (first | omega | (simp; done) | (simp; omega)))) | (with_reducible refine Below.grown ?_ (by assumption) (by first | omega | (simp; omega)) (by simp [Value.ownBlock]; try omega)) | (with_reducible refine below_then ?_ (Aft.below _)) | (with_reducible apply below_then; rotate_left; assumption)))
  refine region_tail 8 (by kernel_rfl) (by kernel_rfl) ?_
  rw [← hw2]
  clear hw2 r0 r1 r2 r3 r4 r5 r6 r7
  simp only [List.take_succ_cons, List.take_zero, List.drop_succ_cons, List.drop_zero]
  repeat still_step
  refine wpStill_nil ?_
  go_wp2_with (go_at_call 25; refine (newB_id _ _ _ (by omega) (by omega) (by omega) (by omega)).mono ?_; rintro en w' ⟨rfl, rfl⟩)
  obtain ⟨bb, hbb⟩ : ∃ bb : Nat, bb = w2.heap.size := ⟨_, rfl⟩
  have B0 : BuckAt (w2.alloc (.cells #[.int .i64 wh, .int .i64 b, .int .i64 0, .bool false] 68)) bb wh b 0 false := by
    rw [hbb]; exact heap_alloc_new _ _
  have E0 : (w2.alloc (.cells #[.int .i64 wh, .int .i64 b, .int .i64 0, .bool false] 68)).cell? ⟨w.heap.size, 1, none⟩ = some (.int .i64 p) := cell_under (by omega) e1
  have L0 : Below w.heap.size w (w2.alloc (.cells #[.int .i64 wh, .int .i64 b, .int .i64 0, .bool false] 68)) := by (repeat' (first | (with_reducible exact Below.refl _ _) | (with_reducible assumption) | (with_reducible refine below_drewN ?_ _) | (with_reducible refine Below.drew ?_) | ((with_reducible refine Below.alloc ?_ ?_ _); (rotate_left; focus (first | omega | (simp; done) | (simp; omega)))) | ((with_reducible refine Below.setCell ?_ ?_ _); (rotate_left; focus (first | omega | (simp; done) | (simp; omega)))) | (with_reducible refine Below.grown ?_ (by assumption) (by first | omega | (simp; omega)) (by simp [Value.ownBlock]; try omega)) | (with_reducible refine below_then ?_ (Aft.below _)) | (with_reducible apply below_then; rotate_left; assumption)))
  have hne : w.heap.size ≠ bb := by omega
  have hle : w.heap.size ≤ bb := by omega
  rw [← hbb]
  generalize w2.alloc (.cells #[.int .i64 wh, .int .i64 b, .int .i64 0, .bool false] 68) = W0 at B0 E0 L0 ⊢
  clear hbb e1 e4 e5 es eb hf_wa hf_wm hf_wl hb_wa hb_wm hb_wl k1
  go_loopw [6, 37] (fun s6 s37 wr => ∃ j : Nat, j ≤ N ∧ s37 = .int .i64 j ∧ BuckAt wr bb wh b ((j : Int) * wh) (decide (0 < j)) ∧ Chg bb W0 wr) (fun s6 s37 wr => N - (intOf s37).toNat)
  case atStart => exact ⟨0, by omega, rfl, by simpa using B0, Chg.refl _ _⟩
  case round =>
    obtain ⟨j, hj, rfl, hB, hC⟩ := hrel
    have E1 := hC.cell hne E0
    have hL := L0.trans (hC.below hle L0.size)
    have t0 : 0 ≤ (j : Int) * p := Int.mul_nonneg (by omega) (by omega)
    have t1 : (j : Int) * p ≤ 400 * 1099511627776 := Int.mul_le_mul (by omega) (by omega) (by omega) (by omega)
    have v0 : 0 ≤ (j : Int) * wh := Int.mul_nonneg (by omega) (by omega)
    have v1 : (j : Int) * wh ≤ 400 * 1099511627776 := Int.mul_le_mul (by omega) (by omega) (by omega) (by omega)
    by_cases hlt : j < N
    · have F := Lib.hid (most_fits p0 p1 p2 b0 hN2.out hN4 hlt)
      have X := Lib.hid (most_next p0 p1 p2 (by omega : j ≤ 400))
      obtain ⟨T, hT⟩ : ∃ T, (j : Int) * p = T := ⟨_, rfl⟩
      rw [hT] at t0 t1 F X
      obtain ⟨V, hV⟩ : ∃ V, (j : Int) * wh = V := ⟨_, rfl⟩
      rw [hV] at v0 v1 F X hB
      have HV := Lib.hid hV
      clear hV
      obtain ⟨A, hA⟩ : ∃ A, decide (0 < j) = A := ⟨_, rfl⟩
      rw [hA] at F hB
      clear hA
      go_wp2_with (go_at_call 26; refine (take_yes _ _ _ _ _ _ _ hB (by omega) (by omega) (by omega) (by omega) (by omega) (by omega) F.out).mono ?_; rintro en wt ⟨rfl, hB2, hC2⟩)
      go_roundw
      case rel =>
        go_light
        refine ⟨j + 1, by omega, by go_num, ?_, hC.trans hC2⟩
        rw [X.out] at hB2
        simpa using hB2
      case measure => go_light; simp [intOf]; omega
    · obtain rfl : j = N := by omega
      have F := Lib.hid (most_not p0 p1 p2 b0 hN2.out hN4)
      have hA : decide (0 < j) = true := by simp; omega
      rw [hA] at hB
      clear hA
      obtain ⟨T, hT⟩ : ∃ T, (j : Int) * p = T := ⟨_, rfl⟩
      rw [hT] at t0 t1 F
      obtain ⟨V, hV⟩ : ∃ V, (j : Int) * wh = V := ⟨_, rfl⟩
      rw [hV] at v0 v1 F hB
      clear hV
      go_wp2_with (go_at_call 26; refine (take_no _ _ _ _ _ _ _ hB (by omega) (by omega) (by omega) (by omega) F.out).mono ?_; rintro en wt ⟨rfl, m, rfl⟩)
      go_ret
      exact ⟨ret_bool (by simp), by (repeat' (first | (with_reducible exact Below.refl _ _) | (with_reducible assumption) | (with_reducible refine below_drewN ?_ _) | (with_reducible refine Below.drew ?_) | ((with_reducible refine Below.alloc ?_ ?_ _); (rotate_left; focus (first | omega | (simp; done) | (simp; omega)))) | ((with_reducible refine Below.setCell ?_ ?_ _); (rotate_left; focus (first | omega | (simp; done) | (simp; omega)))) | (with_reducible refine Below.grown ?_ (by assumption) (by first | omega | (simp; omega)) (by simp [Value.ownBlock]; try omega)) | (with_reducible refine below_then ?_ (Aft.below _)) | (with_reducible apply below_then; rotate_left; assumption)))⟩
theorem mostP_stop (k p e wh b l M : Int) (w : World) (hM : mostZ k p e wh b l = M) (h : M = 0 ∨ 400 < M ∨ e ≠ 0) :
    Calls Try.prog 8 #[.agg #[.int .i64 k, .int .i64 p, .int .i64 e, .int .i64 wh, .int .i64 b, .int .i64 l]] w fun e w' => e = .returned (.bool true) ∧ Below w.heap.size w w' := by
  by_cases h0 : M = 0
  · subst h0
    go_enter Try.func8, Try.ntmps8
    go_wp2_with (first | (go_at_call 15; refine (awake06 _).mono ?_; rintro e wa ⟨rfl, hb_wa⟩; obtain ⟨hc_wa, hf_wa⟩ := bcell hb_wa; have hs_wa := hb_wa.size; (try simp at hs_wa); (try have h1_wa : w.heap.size < wa.heap.size := by omega); (try have h3_wa : w.heap.size < wa.heap.size + 1 := by omega); (try have h4_wa : w.heap.size < wa.heap.size + 1 + 1 := by omega); (try have h5_wa : ¬ w.heap.size = wa.heap.size := by omega)) | (go_at_call 19; refine (most_any _ _ _ _ _ _ _).mono ?_; rintro e wm ⟨rfl, hb_wm⟩; obtain ⟨hc_wm, hf_wm⟩ := bcell hb_wm; have hs_wm := hb_wm.size; (try simp at hs_wm); (try have h1_wm : w.heap.size < wm.heap.size := by omega); (try have h3_wm : w.heap.size < wm.heap.size + 1 := by omega); (try have h4_wm : w.heap.size < wm.heap.size + 1 + 1 := by omega); (try have h5_wm : ¬ w.heap.size = wm.heap.size := by omega)))
    go_ret
    exact ⟨rfl, by (repeat' (first | (with_reducible exact Below.refl _ _) | (with_reducible assumption) | (with_reducible refine below_drewN ?_ _) | (with_reducible refine Below.drew ?_) | ((with_reducible refine Below.alloc ?_ ?_ _); (rotate_left; focus (first | omega | (simp; done) | (simp; omega)))) | ((with_reducible refine Below.setCell ?_ ?_ _); (rotate_left; focus (first | omega | (simp; done) | (simp; omega)))) | (with_reducible refine Below.grown ?_ (by assumption) (by first | omega | (simp; omega)) (by simp [Value.ownBlock]; try omega)) | (with_reducible refine below_then ?_ (Aft.below _)) | (with_reducible apply below_then; rotate_left; assumption)))⟩
  · have n1 : (M == 0) = false := by simpa using h0
    by_cases h4 : 400 < M
    · go_enter Try.func8, Try.ntmps8
      go_wp2_with (first | (go_at_call 15; refine (awake06 _).mono ?_; rintro e wa ⟨rfl, hb_wa⟩; obtain ⟨hc_wa, hf_wa⟩ := bcell hb_wa; have hs_wa := hb_wa.size; (try simp at hs_wa); (try have h1_wa : w.heap.size < wa.heap.size := by omega); (try have h3_wa : w.heap.size < wa.heap.size + 1 := by omega); (try have h4_wa : w.heap.size < wa.heap.size + 1 + 1 := by omega); (try have h5_wa : ¬ w.heap.size = wa.heap.size := by omega)) | (go_at_call 19; refine (most_any _ _ _ _ _ _ _).mono ?_; rintro e wm ⟨rfl, hb_wm⟩; obtain ⟨hc_wm, hf_wm⟩ := bcell hb_wm; have hs_wm := hb_wm.size; (try simp at hs_wm); (try have h1_wm : w.heap.size < wm.heap.size := by omega); (try have h3_wm : w.heap.size < wm.heap.size + 1 := by omega); (try have h4_wm : w.heap.size < wm.heap.size + 1 + 1 := by omega); (try have h5_wm : ¬ w.heap.size = wm.heap.size := by omega)))
      go_ret
      exact ⟨rfl, by (repeat' (first | (with_reducible exact Below.refl _ _) | (with_reducible assumption) | (with_reducible refine below_drewN ?_ _) | (with_reducible refine Below.drew ?_) | ((with_reducible refine Below.alloc ?_ ?_ _); (rotate_left; focus (first | omega | (simp; done) | (simp; omega)))) | ((with_reducible refine Below.setCell ?_ ?_ _); (rotate_left; focus (first | omega | (simp; done) | (simp; omega)))) | (with_reducible refine Below.grown ?_ (by assumption) (by first | omega | (simp; omega)) (by simp [Value.ownBlock]; try omega)) | (with_reducible refine below_then ?_ (Aft.below _)) | (with_reducible apply below_then; rotate_left; assumption)))⟩
    · have n3 : (e == 0) = false := by simp; omega
      have n4 : (e != 0) = true := by simp; omega
      go_enter Try.func8, Try.ntmps8
      go_wp2_with (first | (go_at_call 15; refine (awake06 _).mono ?_; rintro e wa ⟨rfl, hb_wa⟩; obtain ⟨hc_wa, hf_wa⟩ := bcell hb_wa; have hs_wa := hb_wa.size; (try simp at hs_wa); (try have h1_wa : w.heap.size < wa.heap.size := by omega); (try have h3_wa : w.heap.size < wa.heap.size + 1 := by omega); (try have h4_wa : w.heap.size < wa.heap.size + 1 + 1 := by omega); (try have h5_wa : ¬ w.heap.size = wa.heap.size := by omega)) | (go_at_call 19; refine (most_any _ _ _ _ _ _ _).mono ?_; rintro e wm ⟨rfl, hb_wm⟩; obtain ⟨hc_wm, hf_wm⟩ := bcell hb_wm; have hs_wm := hb_wm.size; (try simp at hs_wm); (try have h1_wm : w.heap.size < wm.heap.size := by omega); (try have h3_wm : w.heap.size < wm.heap.size + 1 := by omega); (try have h4_wm : w.heap.size < wm.heap.size + 1 + 1 := by omega); (try have h5_wm : ¬ w.heap.size = wm.heap.size := by omega)))
      go_ret
      exact ⟨rfl, by (repeat' (first | (with_reducible exact Below.refl _ _) | (with_reducible assumption) | (with_reducible refine below_drewN ?_ _) | (with_reducible refine Below.drew ?_) | ((with_reducible refine Below.alloc ?_ ?_ _); (rotate_left; focus (first | omega | (simp; done) | (simp; omega)))) | ((with_reducible refine Below.setCell ?_ ?_ _); (rotate_left; focus (first | omega | (simp; done) | (simp; omega)))) | (with_reducible refine Below.grown ?_ (by assumption) (by first | omega | (simp; omega)) (by simp [Value.ownBlock]; try omega)) | (with_reducible refine below_then ?_ (Aft.below _)) | (with_reducible apply below_then; rotate_left; assumption)))⟩
theorem contractMost_any (k p e wh b l : Int) (w : World) :
    Calls Try.prog 8 #[.agg #[.int .i64 k, .int .i64 p, .int .i64 e, .int .i64 wh, .int .i64 b, .int .i64 l]] w fun e w' => e = .returned (.bool true) ∧ Below w.heap.size w w' := by
  by_cases h : mostZ k p e wh b l = 0 ∨ 400 < mostZ k p e wh b l ∨ e ≠ 0
  · exact mostP_stop k p e wh b l _ w rfl h
  · obtain rfl : e = 0 := by omega
    have hm : 2 ≤ k ∧ k ≤ 4 ∧ rightZ k p 0 wh b l = 0 ∧ wh ≠ p := by
      by_cases hc : 2 ≤ k ∧ k ≤ 4 ∧ rightZ k p 0 wh b l = 0 ∧ wh ≠ p
      · exact hc
      · exact absurd (Or.inl (by unfold mostZ; rw [if_neg hc])) h
    have hM : mostZ k p 0 wh b l = 1 + b / (wh - p) := by unfold mostZ; rw [if_pos hm]
    have hf := rightZ_zero.1 hm.2.2.1
    have hd : p < wh ∧ 0 ≤ b ∧ b ≤ 1099511627776 ∧ 1 ≤ p ∧ wh ≤ 1099511627776 := by unfold FineP at hf; omega
    have hq0 : 0 ≤ b / (wh - p) := Int.ediv_nonneg (by omega) (by omega)
    obtain ⟨N, hN⟩ := Int.eq_ofNat_of_zero_le (a := mostZ k p 0 wh b l) (by omega)
    exact mostP_go k p wh b l N w hm.2.2.1 ⟨hm.1, hm.2.1⟩ hd.2.2.2.1 hd.1 hd.2.2.2.2 hd.2.1 hd.2.2.1 hN (Lib.hid (by rw [← hM, hN])) (by omega) (by omega)
end Go.Proofs.Ytndmmhljphlhjaa
