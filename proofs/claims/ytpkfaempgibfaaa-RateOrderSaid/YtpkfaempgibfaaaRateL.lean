/- The walks of the laws of the layer 'rate', whole: each tells true, of every argument. -/
import Derived.Test.YtpkfaempgibfaaaRateW
import Derived.KernelRfl
namespace Go.Proofs.Ytpkfaempgibfaaa
open Go.RowKit
set_option maxRecDepth 100000
set_option maxHeartbeats 4000000
theorem awake12 (w : World) : Calls Try.prog 16 #[] w fun e w' => e = .returned (.bool true) ∧ w = w' := by
  have c1 : codZ 512 = 20992 := by kernel_rfl
  have c2 : valZ 20993 = 513 := by kernel_rfl
  have c3 : rgtZ 0 = true := by kernel_rfl
  have c4 : stpZ 16384 = 1048576 := by kernel_rfl
  go_enter Try.func16, Try.ntmps16
  go_wp2_with (first | (go_at_call 24; refine (code_int _ _ (by omega) (by omega)).mono ?_; rintro e w' ⟨rfl, rfl⟩) | (go_at_call 21; refine (value_int _ _ (by omega) (by omega)).mono ?_; rintro e w' ⟨rfl, rfl⟩) | (go_at_call 17; refine (right_int _ _ (by omega) (by omega)).mono ?_; rintro e w' ⟨rfl, rfl⟩) | (go_at_call 22; refine (step_int _ _ (by omega) (by omega)).mono ?_; rintro e w' ⟨rfl, rfl⟩))
  go_ret
  exact ⟨ret_bool (by first | (simp; done) | (simp; omega) | omega), rfl⟩
theorem rateTells_any (c n : Int) (w : World) (h0 : 0 ≤ c) (hc : c < 65536) (hn0 : -9223372036854775808 ≤ n) (hn1 : n ≤ 9223372036854775807) :
    Calls Try.prog 3 #[.int .u16 c, .int .i64 n] w fun e w' => e = .returned (.bool true) ∧ w = w' := by
  have b1 := sclZ_b c
  have b2 := codZ_b n
  have b3 := valZ_eq c
  go_enter Try.func3, Try.ntmps3
  go_wp2_with (first | (go_at_call 16; refine (awake12 _).mono ?_; rintro e w' ⟨rfl, rfl⟩) | (go_at_call 24; refine (code_int _ _ (by omega) (by omega)).mono ?_; rintro e w' ⟨rfl, rfl⟩) | (go_at_call 19; refine (scaled_int _ _ (by omega) (by omega)).mono ?_; rintro e w' ⟨rfl, rfl⟩) | (go_at_call 21; refine (value_int _ _ (by omega) (by omega)).mono ?_; rintro e w' ⟨rfl, rfl⟩) | (go_at_call 17; refine (right_int _ _ (by omega) (by omega)).mono ?_; rintro e w' ⟨rfl, rfl⟩) | (go_at_call 22; refine (step_int _ _ (by omega) (by omega)).mono ?_; rintro e w' ⟨rfl, rfl⟩) | (go_at_call 25; refine (refCode_int _ _ (by omega) (by omega)).mono ?_; rintro e w' ⟨rfl, rfl⟩) | (go_at_call 20; refine (refScaled_int _ _ (by omega) (by omega)).mono ?_; rintro e w' ⟨rfl, rfl⟩) | (go_at_call 18; refine (refRight_int _ _ (by omega) (by omega)).mono ?_; rintro e w' ⟨rfl, rfl⟩) | (go_at_call 23; refine (refStep_int _ _ (by omega) (by omega)).mono ?_; rintro e w' ⟨rfl, rfl⟩))
  go_ret
  exact ⟨ret_bool (by first | (simp; done) | (simp; omega) | omega), rfl⟩
theorem rateOrder_any (a b n m : Int) (w : World) (a0 : 0 ≤ a) (a1 : a < 65536) (b0 : 0 ≤ b) (b1 : b < 65536) (n0 : -9223372036854775808 ≤ n) (n1 : n ≤ 9223372036854775807) (m0 : -9223372036854775808 ≤ m) (m1 : m ≤ 9223372036854775807) :
    Calls Try.prog 4 #[.int .u16 a, .int .u16 b, .int .i64 n, .int .i64 m] w fun e w' => e = .returned (.bool true) ∧ w = w' := by
  obtain ⟨x0, x1, x2⟩ := codZ_b n
  obtain ⟨y0, y1, y2⟩ := codZ_b m
  have r3 : n ≤ m → codZ n ≤ codZ m := fun h => codZ_mono h
  have r4 : m ≤ n → codZ m ≤ codZ n := fun h => codZ_mono h
  have sa := sclZ_b a
  have sb := sclZ_b b
  have hd : n = m ∨ n < m ∨ m < n := by omega
  by_cases hr : rgtZ a = true
  · by_cases hr' : rgtZ b = true
    · have f := orderZ a0 b0 hr hr'
      by_cases hab : a < b
      · obtain ⟨f2, f3⟩ := f.1 hab
        clear f
        rcases hd with rfl | hd | hd
        all_goals
          first | (have r3 := r3 (by omega); clear r4) | (have r4 := r4 (by omega); clear r3)
          go_enter Try.func4, Try.ntmps4
          go_wp2_with (first | (go_at_call 16; refine (awake12 _).mono ?_; rintro e w' ⟨rfl, rfl⟩) | (go_at_call 24; refine (code_int _ _ (by omega) (by omega)).mono ?_; rintro e w' ⟨rfl, rfl⟩) | (go_at_call 19; refine (scaled_int _ _ (by omega) (by omega)).mono ?_; rintro e w' ⟨rfl, rfl⟩) | (go_at_call 21; refine (value_int _ _ (by omega) (by omega)).mono ?_; rintro e w' ⟨rfl, rfl⟩) | (go_at_call 17; refine (right_int _ _ (by omega) (by omega)).mono ?_; rintro e w' ⟨rfl, rfl⟩) | (go_at_call 22; refine (step_int _ _ (by omega) (by omega)).mono ?_; rintro e w' ⟨rfl, rfl⟩))
          go_ret
          exact ⟨ret_bool (by first | (simp; done) | (simp; omega) | omega), rfl⟩
      · have f2 := f.2 (by omega)
        clear f
        rcases hd with rfl | hd | hd
        all_goals
          first | (have r3 := r3 (by omega); clear r4) | (have r4 := r4 (by omega); clear r3)
          go_enter Try.func4, Try.ntmps4
          go_wp2_with (first | (go_at_call 16; refine (awake12 _).mono ?_; rintro e w' ⟨rfl, rfl⟩) | (go_at_call 24; refine (code_int _ _ (by omega) (by omega)).mono ?_; rintro e w' ⟨rfl, rfl⟩) | (go_at_call 19; refine (scaled_int _ _ (by omega) (by omega)).mono ?_; rintro e w' ⟨rfl, rfl⟩) | (go_at_call 21; refine (value_int _ _ (by omega) (by omega)).mono ?_; rintro e w' ⟨rfl, rfl⟩) | (go_at_call 17; refine (right_int _ _ (by omega) (by omega)).mono ?_; rintro e w' ⟨rfl, rfl⟩) | (go_at_call 22; refine (step_int _ _ (by omega) (by omega)).mono ?_; rintro e w' ⟨rfl, rfl⟩))
          go_ret
          exact ⟨ret_bool (by first | (simp; done) | (simp; omega) | omega), rfl⟩
    · rcases hd with rfl | hd | hd
      all_goals
        first | (have r3 := r3 (by omega); clear r4) | (have r4 := r4 (by omega); clear r3)
        go_enter Try.func4, Try.ntmps4
        go_wp2_with (first | (go_at_call 16; refine (awake12 _).mono ?_; rintro e w' ⟨rfl, rfl⟩) | (go_at_call 24; refine (code_int _ _ (by omega) (by omega)).mono ?_; rintro e w' ⟨rfl, rfl⟩) | (go_at_call 19; refine (scaled_int _ _ (by omega) (by omega)).mono ?_; rintro e w' ⟨rfl, rfl⟩) | (go_at_call 21; refine (value_int _ _ (by omega) (by omega)).mono ?_; rintro e w' ⟨rfl, rfl⟩) | (go_at_call 17; refine (right_int _ _ (by omega) (by omega)).mono ?_; rintro e w' ⟨rfl, rfl⟩) | (go_at_call 22; refine (step_int _ _ (by omega) (by omega)).mono ?_; rintro e w' ⟨rfl, rfl⟩))
        go_ret
        exact ⟨ret_bool (by first | (simp; done) | (simp; omega) | omega), rfl⟩
  · rcases hd with rfl | hd | hd
    all_goals
      first | (have r3 := r3 (by omega); clear r4) | (have r4 := r4 (by omega); clear r3)
      go_enter Try.func4, Try.ntmps4
      go_wp2_with (first | (go_at_call 16; refine (awake12 _).mono ?_; rintro e w' ⟨rfl, rfl⟩) | (go_at_call 24; refine (code_int _ _ (by omega) (by omega)).mono ?_; rintro e w' ⟨rfl, rfl⟩) | (go_at_call 19; refine (scaled_int _ _ (by omega) (by omega)).mono ?_; rintro e w' ⟨rfl, rfl⟩) | (go_at_call 21; refine (value_int _ _ (by omega) (by omega)).mono ?_; rintro e w' ⟨rfl, rfl⟩) | (go_at_call 17; refine (right_int _ _ (by omega) (by omega)).mono ?_; rintro e w' ⟨rfl, rfl⟩) | (go_at_call 22; refine (step_int _ _ (by omega) (by omega)).mono ?_; rintro e w' ⟨rfl, rfl⟩))
      go_ret
      exact ⟨ret_bool (by first | (simp; done) | (simp; omega) | omega), rfl⟩
theorem rateBack_any (c : Int) (w : World) (h0 : 0 ≤ c) (hc : c < 65536) :
    Calls Try.prog 6 #[.int .u16 c] w fun e w' => e = .returned (.bool true) ∧ w = w' := by
  by_cases hr : rgtZ c = true
  · obtain ⟨k1, k2, k3⟩ := backZ h0 hr
    have b0 := valZ_eq c
    have b1 := sclZ_b c
    have b2 := codZ_b (sclZ c / 512)
    obtain ⟨d, hd⟩ : ∃ d, codZ (sclZ c / 512) = d := ⟨_, rfl⟩
    rw [hd] at k1 k2 k3 b2
    have b3 := sclZ_b d
    have b4 := valZ_eq d
    by_cases hw : sclZ c % 512 = 0
    · have hdc := k2 hw
      clear k2
      go_enter Try.func6, Try.ntmps6
      go_wp2_with (first | (go_at_call 16; refine (awake12 _).mono ?_; rintro e w' ⟨rfl, rfl⟩) | (go_at_call 24; refine (code_int _ _ (by omega) (by omega)).mono ?_; rintro e w' ⟨rfl, rfl⟩) | (go_at_call 19; refine (scaled_int _ _ (by omega) (by omega)).mono ?_; rintro e w' ⟨rfl, rfl⟩) | (go_at_call 21; refine (value_int _ _ (by omega) (by omega)).mono ?_; rintro e w' ⟨rfl, rfl⟩) | (go_at_call 17; refine (right_int _ _ (by omega) (by omega)).mono ?_; rintro e w' ⟨rfl, rfl⟩) | (go_at_call 22; refine (step_int _ _ (by omega) (by omega)).mono ?_; rintro e w' ⟨rfl, rfl⟩))
      go_ret
      exact ⟨ret_bool (by first | (simp; done) | (simp; omega) | omega), rfl⟩
    · clear k2
      go_enter Try.func6, Try.ntmps6
      go_wp2_with (first | (go_at_call 16; refine (awake12 _).mono ?_; rintro e w' ⟨rfl, rfl⟩) | (go_at_call 24; refine (code_int _ _ (by omega) (by omega)).mono ?_; rintro e w' ⟨rfl, rfl⟩) | (go_at_call 19; refine (scaled_int _ _ (by omega) (by omega)).mono ?_; rintro e w' ⟨rfl, rfl⟩) | (go_at_call 21; refine (value_int _ _ (by omega) (by omega)).mono ?_; rintro e w' ⟨rfl, rfl⟩) | (go_at_call 17; refine (right_int _ _ (by omega) (by omega)).mono ?_; rintro e w' ⟨rfl, rfl⟩) | (go_at_call 22; refine (step_int _ _ (by omega) (by omega)).mono ?_; rintro e w' ⟨rfl, rfl⟩))
      go_ret
      exact ⟨ret_bool (by first | (simp; done) | (simp; omega) | omega), rfl⟩
  · go_enter Try.func6, Try.ntmps6
    go_wp2_with (first | (go_at_call 16; refine (awake12 _).mono ?_; rintro e w' ⟨rfl, rfl⟩) | (go_at_call 24; refine (code_int _ _ (by omega) (by omega)).mono ?_; rintro e w' ⟨rfl, rfl⟩) | (go_at_call 19; refine (scaled_int _ _ (by omega) (by omega)).mono ?_; rintro e w' ⟨rfl, rfl⟩) | (go_at_call 21; refine (value_int _ _ (by omega) (by omega)).mono ?_; rintro e w' ⟨rfl, rfl⟩) | (go_at_call 17; refine (right_int _ _ (by omega) (by omega)).mono ?_; rintro e w' ⟨rfl, rfl⟩) | (go_at_call 22; refine (step_int _ _ (by omega) (by omega)).mono ?_; rintro e w' ⟨rfl, rfl⟩))
    go_ret
    exact ⟨ret_bool (by first | (simp; done) | (simp; omega) | omega), rfl⟩
theorem rateNear_any (n : Int) (w : World) (n0 : 0 ≤ n) (n1 : n < 4294967296) :
    Calls Try.prog 5 #[.int .u32 n] w fun e w' => e = .returned (.bool true) ∧ w = w' := by
  by_cases h0 : n = 0
  · subst h0
    have c1 : codZ 0 = 0 := by kernel_rfl
    have c2 : valZ 0 = 0 := by kernel_rfl
    go_enter Try.func5, Try.ntmps5
    go_wp2_with (first | (go_at_call 16; refine (awake12 _).mono ?_; rintro e w' ⟨rfl, rfl⟩) | (go_at_call 24; refine (code_int _ _ (by omega) (by omega)).mono ?_; rintro e w' ⟨rfl, rfl⟩) | (go_at_call 19; refine (scaled_int _ _ (by omega) (by omega)).mono ?_; rintro e w' ⟨rfl, rfl⟩) | (go_at_call 21; refine (value_int _ _ (by omega) (by omega)).mono ?_; rintro e w' ⟨rfl, rfl⟩) | (go_at_call 17; refine (right_int _ _ (by omega) (by omega)).mono ?_; rintro e w' ⟨rfl, rfl⟩) | (go_at_call 22; refine (step_int _ _ (by omega) (by omega)).mono ?_; rintro e w' ⟨rfl, rfl⟩))
    go_ret
    exact ⟨ret_bool (by first | (simp; done) | (simp; omega) | omega), rfl⟩
  · obtain ⟨c4, c3, c5, c6⟩ := nearZ (n := n) (by omega) n1
    obtain ⟨x0, x1, x2⟩ := codZ_b n
    obtain ⟨c, hd⟩ : ∃ d, codZ n = d := ⟨_, rfl⟩
    rw [hd] at c3 c4 c5 c6 x0 x1
    have b1 := sclZ_b c
    have b2 := sclZ_b (c + 1)
    have b3 := valZ_eq c
    by_cases ht : c < 32767
    all_goals
      first | have c3 := c3 (by omega) | clear c3
      by_cases h1 : n ≤ 512
      · have c5 := c5 h1
        clear c6
        go_enter Try.func5, Try.ntmps5
        go_wp2_with (first | (go_at_call 16; refine (awake12 _).mono ?_; rintro e w' ⟨rfl, rfl⟩) | (go_at_call 24; refine (code_int _ _ (by omega) (by omega)).mono ?_; rintro e w' ⟨rfl, rfl⟩) | (go_at_call 19; refine (scaled_int _ _ (by omega) (by omega)).mono ?_; rintro e w' ⟨rfl, rfl⟩) | (go_at_call 21; refine (value_int _ _ (by omega) (by omega)).mono ?_; rintro e w' ⟨rfl, rfl⟩) | (go_at_call 17; refine (right_int _ _ (by omega) (by omega)).mono ?_; rintro e w' ⟨rfl, rfl⟩) | (go_at_call 22; refine (step_int _ _ (by omega) (by omega)).mono ?_; rintro e w' ⟨rfl, rfl⟩))
        go_ret
        exact ⟨ret_bool (by first | (simp; done) | (simp; omega) | omega), rfl⟩
      · clear c5
        by_cases h2 : n ≤ 2147483648
        · have c6 := c6 h2
          go_enter Try.func5, Try.ntmps5
          go_wp2_with (first | (go_at_call 16; refine (awake12 _).mono ?_; rintro e w' ⟨rfl, rfl⟩) | (go_at_call 24; refine (code_int _ _ (by omega) (by omega)).mono ?_; rintro e w' ⟨rfl, rfl⟩) | (go_at_call 19; refine (scaled_int _ _ (by omega) (by omega)).mono ?_; rintro e w' ⟨rfl, rfl⟩) | (go_at_call 21; refine (value_int _ _ (by omega) (by omega)).mono ?_; rintro e w' ⟨rfl, rfl⟩) | (go_at_call 17; refine (right_int _ _ (by omega) (by omega)).mono ?_; rintro e w' ⟨rfl, rfl⟩) | (go_at_call 22; refine (step_int _ _ (by omega) (by omega)).mono ?_; rintro e w' ⟨rfl, rfl⟩))
          go_ret
          exact ⟨ret_bool (by first | (simp; done) | (simp; omega) | omega), rfl⟩
        · clear c6
          go_enter Try.func5, Try.ntmps5
          go_wp2_with (first | (go_at_call 16; refine (awake12 _).mono ?_; rintro e w' ⟨rfl, rfl⟩) | (go_at_call 24; refine (code_int _ _ (by omega) (by omega)).mono ?_; rintro e w' ⟨rfl, rfl⟩) | (go_at_call 19; refine (scaled_int _ _ (by omega) (by omega)).mono ?_; rintro e w' ⟨rfl, rfl⟩) | (go_at_call 21; refine (value_int _ _ (by omega) (by omega)).mono ?_; rintro e w' ⟨rfl, rfl⟩) | (go_at_call 17; refine (right_int _ _ (by omega) (by omega)).mono ?_; rintro e w' ⟨rfl, rfl⟩) | (go_at_call 22; refine (step_int _ _ (by omega) (by omega)).mono ?_; rintro e w' ⟨rfl, rfl⟩))
          go_ret
          exact ⟨ret_bool (by first | (simp; done) | (simp; omega) | omega), rfl⟩
theorem rateSteps_any (c : Int) (w : World) (h0 : 0 ≤ c) (hc : c < 65536) :
    Calls Try.prog 7 #[.int .u16 c] w fun e w' => e = .returned (.bool true) ∧ w = w' := by
  have b1 := sclZ_b c
  have b2 := valZ_eq c
  by_cases hz : sclZ c = 0
  · have h1 := stepsZ0 hz
    go_enter Try.func7, Try.ntmps7
    go_wp2_with (first | (go_at_call 16; refine (awake12 _).mono ?_; rintro e w' ⟨rfl, rfl⟩) | (go_at_call 24; refine (code_int _ _ (by omega) (by omega)).mono ?_; rintro e w' ⟨rfl, rfl⟩) | (go_at_call 19; refine (scaled_int _ _ (by omega) (by omega)).mono ?_; rintro e w' ⟨rfl, rfl⟩) | (go_at_call 21; refine (value_int _ _ (by omega) (by omega)).mono ?_; rintro e w' ⟨rfl, rfl⟩) | (go_at_call 17; refine (right_int _ _ (by omega) (by omega)).mono ?_; rintro e w' ⟨rfl, rfl⟩) | (go_at_call 22; refine (step_int _ _ (by omega) (by omega)).mono ?_; rintro e w' ⟨rfl, rfl⟩))
    go_ret
    exact ⟨ret_bool (by first | (simp; done) | (simp; omega) | omega), rfl⟩
  · obtain ⟨d1, d6, d2, d5, d4, d3⟩ := stepsZ hz
    have hz' : (sclZ c == 0) = false := by simp; exact hz
    go_enter Try.func7, Try.ntmps7
    go_wp2_with (first | (go_at_call 16; refine (awake12 _).mono ?_; rintro e w' ⟨rfl, rfl⟩) | (go_at_call 24; refine (code_int _ _ (by omega) (by omega)).mono ?_; rintro e w' ⟨rfl, rfl⟩) | (go_at_call 19; refine (scaled_int _ _ (by omega) (by omega)).mono ?_; rintro e w' ⟨rfl, rfl⟩) | (go_at_call 21; refine (value_int _ _ (by omega) (by omega)).mono ?_; rintro e w' ⟨rfl, rfl⟩) | (go_at_call 17; refine (right_int _ _ (by omega) (by omega)).mono ?_; rintro e w' ⟨rfl, rfl⟩) | (go_at_call 22; refine (step_int _ _ (by omega) (by omega)).mono ?_; rintro e w' ⟨rfl, rfl⟩))
    go_ret
    exact ⟨ret_bool (by first | (simp; done) | (simp; omega) | omega), rfl⟩
theorem rateTwice_any (c : Int) (w : World) (h0 : 0 ≤ c) (hc : c < 65536) :
    Calls Try.prog 8 #[.int .u16 c] w fun e w' => e = .returned (.bool true) ∧ w = w' := by
  by_cases hr : rgtZ c = true
  · by_cases hz : c = 0
    · subst hz
      go_enter Try.func8, Try.ntmps8
      go_wp2_with (first | (go_at_call 16; refine (awake12 _).mono ?_; rintro e w' ⟨rfl, rfl⟩) | (go_at_call 24; refine (code_int _ _ (by omega) (by omega)).mono ?_; rintro e w' ⟨rfl, rfl⟩) | (go_at_call 19; refine (scaled_int _ _ (by omega) (by omega)).mono ?_; rintro e w' ⟨rfl, rfl⟩) | (go_at_call 21; refine (value_int _ _ (by omega) (by omega)).mono ?_; rintro e w' ⟨rfl, rfl⟩) | (go_at_call 17; refine (right_int _ _ (by omega) (by omega)).mono ?_; rintro e w' ⟨rfl, rfl⟩) | (go_at_call 22; refine (step_int _ _ (by omega) (by omega)).mono ?_; rintro e w' ⟨rfl, rfl⟩))
      go_ret
      exact ⟨ret_bool (by first | (simp; done) | (simp; omega) | omega), rfl⟩
    · have hz' : (c == 0) = false := by simp; exact hz
      by_cases h1 : c < 32256
      · obtain ⟨t1, t2, t3⟩ := twiceZ h0 hr hz h1
        have b1 := sclZ_b c
        have b2 := sclZ_b (c + 1)
        have b3 := sclZ_b (c + 512)
        have f1 := u16_and_31 (c / 512) (by omega) (by omega)
        by_cases hm : c % 512 < 511
        all_goals
          go_enter Try.func8, Try.ntmps8
          go_wp2_with (first | (go_at_call 16; refine (awake12 _).mono ?_; rintro e w' ⟨rfl, rfl⟩) | (go_at_call 24; refine (code_int _ _ (by omega) (by omega)).mono ?_; rintro e w' ⟨rfl, rfl⟩) | (go_at_call 19; refine (scaled_int _ _ (by omega) (by omega)).mono ?_; rintro e w' ⟨rfl, rfl⟩) | (go_at_call 21; refine (value_int _ _ (by omega) (by omega)).mono ?_; rintro e w' ⟨rfl, rfl⟩) | (go_at_call 17; refine (right_int _ _ (by omega) (by omega)).mono ?_; rintro e w' ⟨rfl, rfl⟩) | (go_at_call 22; refine (step_int _ _ (by omega) (by omega)).mono ?_; rintro e w' ⟨rfl, rfl⟩))
          go_ret
          exact ⟨ret_bool (by first | (simp; done) | (simp; omega) | omega), rfl⟩
      · go_enter Try.func8, Try.ntmps8
        go_wp2_with (first | (go_at_call 16; refine (awake12 _).mono ?_; rintro e w' ⟨rfl, rfl⟩) | (go_at_call 24; refine (code_int _ _ (by omega) (by omega)).mono ?_; rintro e w' ⟨rfl, rfl⟩) | (go_at_call 19; refine (scaled_int _ _ (by omega) (by omega)).mono ?_; rintro e w' ⟨rfl, rfl⟩) | (go_at_call 21; refine (value_int _ _ (by omega) (by omega)).mono ?_; rintro e w' ⟨rfl, rfl⟩) | (go_at_call 17; refine (right_int _ _ (by omega) (by omega)).mono ?_; rintro e w' ⟨rfl, rfl⟩) | (go_at_call 22; refine (step_int _ _ (by omega) (by omega)).mono ?_; rintro e w' ⟨rfl, rfl⟩))
        go_ret
        exact ⟨ret_bool (by first | (simp; done) | (simp; omega) | omega), rfl⟩
  · go_enter Try.func8, Try.ntmps8
    go_wp2_with (first | (go_at_call 16; refine (awake12 _).mono ?_; rintro e w' ⟨rfl, rfl⟩) | (go_at_call 24; refine (code_int _ _ (by omega) (by omega)).mono ?_; rintro e w' ⟨rfl, rfl⟩) | (go_at_call 19; refine (scaled_int _ _ (by omega) (by omega)).mono ?_; rintro e w' ⟨rfl, rfl⟩) | (go_at_call 21; refine (value_int _ _ (by omega) (by omega)).mono ?_; rintro e w' ⟨rfl, rfl⟩) | (go_at_call 17; refine (right_int _ _ (by omega) (by omega)).mono ?_; rintro e w' ⟨rfl, rfl⟩) | (go_at_call 22; refine (step_int _ _ (by omega) (by omega)).mono ?_; rintro e w' ⟨rfl, rfl⟩))
    go_ret
    exact ⟨ret_bool (by first | (simp; done) | (simp; omega) | omega), rfl⟩
end Go.Proofs.Ytpkfaempgibfaaa
