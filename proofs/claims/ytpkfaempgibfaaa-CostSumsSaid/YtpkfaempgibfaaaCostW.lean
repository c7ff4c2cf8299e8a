/- The walks of the layer 'cost' and of its reference. -/
import Derived.Test.YtpkfaempgibfaaaContrW
import Derived.Test.YtpkfaempgibfaaaKit2
import Derived.Test.YtpkfaempgibfaaaCostM
namespace Go.Proofs.Ytpkfaempgibfaaa
set_option linter.unusedVariables false
set_option linter.unusedSimpArgs false
open Go.RowKit
set_option maxRecDepth 100000
set_option maxHeartbeats 4000000
theorem per_any (s : Int) (w : World) : Calls Try.prog 29 #[.int .i64 s] w fun e w' => e = .returned (.int .i64 (perZ s)) ∧ w = w' := by
  have hb := perZ_b s
  go_enter Try.func29, Try.ntmps29
  by_cases h : s < 1
  · go_wp2
    go_ret
    exact ⟨ret_int (by simp [perZ, h]), rfl⟩
  · have h1 := Int.ediv_le_self (a := 1048575) s (by omega)
    have h2 : 0 ≤ 1048575 / s := Int.ediv_nonneg (by omega) (by omega)
    go_wp2
    go_ret
    exact ⟨ret_int (by unfold perZ; rw [if_neg (by omega)]), rfl⟩
theorem refUp_any (n d : Int) (w : World) (h0 : 0 ≤ n) (h1 : n ≤ 9223372036854775807) (h2 : 1 ≤ d) : Calls Try.prog 36 #[.int .i64 n, .int .i64 d] w fun e w' => e = .returned (.int .i64 (upZ n d)) ∧ w = w' := by
  obtain ⟨u1, u2⟩ := upZ_ref h0 h2
  have h3 := Int.ediv_le_self (a := n) d (by omega)
  have h4 : 0 ≤ n / d := Int.ediv_nonneg (by omega) (by omega)
  have h5 := Int.emod_nonneg n (by omega : d ≠ 0)
  have h6 := Int.emod_lt_of_pos n (by omega : 0 < d)
  go_enter Try.func36, Try.ntmps36
  by_cases h : n % d > 0
  · have hu := Lib.hid (u1 h)
    have hd : 2 ≤ d := by omega
    have h7 : n / d * d ≤ n := Int.ediv_mul_le _ (by omega)
    have h8 : n / d ≤ 9223372036854775806 := by
      have : n / d * 2 ≤ n / d * d := Int.mul_le_mul_of_nonneg_left hd h4
      omega
    clear u1 u2 h7
    go_wp2
    go_ret
    exact ⟨ret_int hu.out.symm, rfl⟩
  · have hu := Lib.hid (u2 h)
    clear u1 u2
    go_wp2
    go_ret
    exact ⟨ret_int hu.out.symm, rfl⟩
theorem refPer_any (s : Int) (w : World) : Calls Try.prog 30 #[.int .i64 s] w fun e w' => e = .returned (.int .i64 (perZ s)) ∧ w = w' := by
  go_enter Try.func30, Try.ntmps30
  by_cases h : s < 1
  · go_wp2_with fail
    go_ret
    exact ⟨ret_int (by simp [perZ, h]), rfl⟩
  · have hu : perZ s = upZ 1048576 s := by
      have a := perZ_ref (s := s) (by omega)
      have b := upZ_ref (n := 1048576) (d := s) (by omega) (by omega)
      by_cases c : 1048576 % s > 0
      · rw [a.1 c, b.1 c]
      · rw [a.2 c, b.2 c]
    have HU := Lib.hid hu
    clear hu
    go_wp2_with (go_at_call 36; refine (refUp_any _ _ _ (by omega) (by omega) (by omega)).mono ?_; rintro e w' ⟨rfl, rfl⟩)
    go_ret
    exact ⟨ret_int HU.out.symm, rfl⟩
theorem up_any (n d : Int) (w : World) (h0 : 0 ≤ n) (h1 : 1 ≤ d) (h2 : n + d ≤ 9223372036854775807) : Calls Try.prog 35 #[.int .i64 n, .int .i64 d] w fun e w' => e = .returned (.int .i64 (upZ n d)) ∧ w = w' := by
  have h3 := Int.ediv_le_self (a := n + d - 1) d (by omega)
  have h4 : 0 ≤ (n + d - 1) / d := Int.ediv_nonneg (by omega) (by omega)
  go_enter Try.func35, Try.ntmps35
  go_wp2
  go_ret
  exact ⟨ret_int (by unfold upZ; rfl), rfl⟩
theorem need_any (k p e wh b l : Int) (w : World) :
    Calls Try.prog 27 #[.agg #[.int .i64 k, .int .i64 p, .int .i64 e, .int .i64 wh, .int .i64 b, .int .i64 l]] w fun en w' => en = .returned (.int .i64 (needZ k p e wh b l)) ∧ Below w.heap.size w w' := by
  by_cases hr : rightZ k p e wh b l = 0
  · have hf := rightZ_zero.1 hr
    have hk : ¬ (k < 1 ∨ 7 < k) := by unfold FineP at hf; omega
    by_cases hv : 2 ≤ k ∧ k ≤ 4
    · have hn : needZ k p e wh b l = upZ (perZ wh * 4096 + perZ p * b) (b + 4096) := by
        unfold needZ
        rw [if_neg (by omega), if_neg (by omega), if_neg (by omega), if_pos hv]
      have b1 := perZ_b wh
      have b2 := perZ_b p
      have b3 : 0 ≤ b ∧ b ≤ 1099511627776 := by unfold FineP at hf; omega
      have b4 : 0 ≤ perZ p * b := Int.mul_nonneg b2.1 b3.1
      have b5 : perZ p * b ≤ 1048576 * 1099511627776 := Int.mul_le_mul b2.2 b3.2 b3.1 (by omega)
      rw [hn]
      clear hn hf
      obtain rfl | rfl | rfl : k = 2 ∨ k = 3 ∨ k = 4 := by omega
      all_goals
        go_enter Try.func27, Try.ntmps27
        go_wp2_with (first | (go_at_call 31; refine (cright_any _ _ _ _ _ _ _).mono ?_; rintro e w' ⟨rfl, hb⟩; obtain ⟨hc, hf⟩ := bcell hb; have hz := hb.size; (try simp at hz); (try have hz1 : w.heap.size < w'.heap.size := by omega); (try have hz2 : w.heap.size + 1 < w'.heap.size := by omega); (try have hz3 : w.heap.size < w'.heap.size + 1 := by omega); (try have hz4 : w.heap.size < w'.heap.size + 1 + 1 := by omega); (try have hz5 : ¬ w.heap.size = w'.heap.size := by omega); (try have hz6 : w.heap.size + 1 + 1 < w'.heap.size := by omega)))
        go_quiet ((first
          | (go_at_call 29; exact quiet_same (per_any _ _))
          | (go_at_call 35; exact quiet_same (up_any _ _ _ (by omega) (by omega) (by omega)))))
        go_wp2
        go_ret
        exact ⟨rfl, below_drewN (below_box hb) _⟩
    · by_cases h1 : k = 1
      · have hn : needZ k p e wh b l = perZ p := by
          unfold needZ
          rw [if_neg (by omega), if_pos h1]
        rw [hn]
        clear hn hk hv
        subst h1
        go_enter Try.func27, Try.ntmps27
        go_wp2_with (first | (go_at_call 31; refine (cright_any _ _ _ _ _ _ _).mono ?_; rintro e w' ⟨rfl, hb⟩; obtain ⟨hc, hf⟩ := bcell hb; have hz := hb.size; (try simp at hz); (try have hz1 : w.heap.size < w'.heap.size := by omega); (try have hz2 : w.heap.size + 1 < w'.heap.size := by omega); (try have hz3 : w.heap.size < w'.heap.size + 1 := by omega); (try have hz4 : w.heap.size < w'.heap.size + 1 + 1 := by omega); (try have hz5 : ¬ w.heap.size = w'.heap.size := by omega); (try have hz6 : w.heap.size + 1 + 1 < w'.heap.size := by omega)) | (go_at_call 29; refine (per_any _ _).mono ?_; rintro e w' ⟨rfl, rfl⟩))
        go_ret
        exact ⟨rfl, below_box hb⟩
      · by_cases h5 : k = 5
        · have hn : needZ k p e wh b l = perZ l := by
            unfold needZ
            rw [if_neg (by omega), if_neg (by omega), if_pos h5]
          rw [hn]
          clear hn hk hv h1
          subst h5
          go_enter Try.func27, Try.ntmps27
          go_wp2_with (first | (go_at_call 31; refine (cright_any _ _ _ _ _ _ _).mono ?_; rintro e w' ⟨rfl, hb⟩; obtain ⟨hc, hf⟩ := bcell hb; have hz := hb.size; (try simp at hz); (try have hz1 : w.heap.size < w'.heap.size := by omega); (try have hz2 : w.heap.size + 1 < w'.heap.size := by omega); (try have hz3 : w.heap.size < w'.heap.size + 1 := by omega); (try have hz4 : w.heap.size < w'.heap.size + 1 + 1 := by omega); (try have hz5 : ¬ w.heap.size = w'.heap.size := by omega); (try have hz6 : w.heap.size + 1 + 1 < w'.heap.size := by omega)) | (go_at_call 29; refine (per_any _ _).mono ?_; rintro e w' ⟨rfl, rfl⟩))
          go_ret
          exact ⟨rfl, below_box hb⟩
        · have hn : needZ k p e wh b l = 0 := by
            unfold needZ
            rw [if_neg (by omega), if_neg (by omega), if_neg (by omega), if_neg (by omega)]
          rw [hn]
          clear hn
          go_enter Try.func27, Try.ntmps27
          go_wp2_with (first | (go_at_call 31; refine (cright_any _ _ _ _ _ _ _).mono ?_; rintro e w' ⟨rfl, hb⟩; obtain ⟨hc, hf⟩ := bcell hb; have hz := hb.size; (try simp at hz); (try have hz1 : w.heap.size < w'.heap.size := by omega); (try have hz2 : w.heap.size + 1 < w'.heap.size := by omega); (try have hz3 : w.heap.size < w'.heap.size + 1 := by omega); (try have hz4 : w.heap.size < w'.heap.size + 1 + 1 := by omega); (try have hz5 : ¬ w.heap.size = w'.heap.size := by omega); (try have hz6 : w.heap.size + 1 + 1 < w'.heap.size := by omega)) | (go_at_call 29; refine (per_any _ _).mono ?_; rintro e w' ⟨rfl, rfl⟩))
          go_ret
          exact ⟨rfl, below_box hb⟩
  · have hn : needZ k p e wh b l = 0 := by unfold needZ; rw [if_pos hr]
    rw [hn]
    have hr' : (rightZ k p e wh b l == 0) = false := by simp; exact hr
    clear hn
    go_enter Try.func27, Try.ntmps27
    go_wp2_with (first | (go_at_call 31; refine (cright_any _ _ _ _ _ _ _).mono ?_; rintro e w' ⟨rfl, hb⟩; obtain ⟨hc, hf⟩ := bcell hb; have hz := hb.size; (try simp at hz); (try have hz1 : w.heap.size < w'.heap.size := by omega); (try have hz2 : w.heap.size + 1 < w'.heap.size := by omega); (try have hz3 : w.heap.size < w'.heap.size + 1 := by omega); (try have hz4 : w.heap.size < w'.heap.size + 1 + 1 := by omega); (try have hz5 : ¬ w.heap.size = w'.heap.size := by omega); (try have hz6 : w.heap.size + 1 + 1 < w'.heap.size := by omega)))
    go_ret
    exact ⟨rfl, below_box hb⟩
theorem refNeed_any (k p e wh b l : Int) (w : World) :
    Calls Try.prog 28 #[.agg #[.int .i64 k, .int .i64 p, .int .i64 e, .int .i64 wh, .int .i64 b, .int .i64 l]] w fun en w' => en = .returned (.int .i64 (needZ k p e wh b l)) ∧ Below w.heap.size w w' := by
  by_cases hr : rightZ k p e wh b l = 0
  · have hf := rightZ_zero.1 hr
    have hk : ¬ (k < 1 ∨ 7 < k) := by unfold FineP at hf; omega
    by_cases hv : 2 ≤ k ∧ k ≤ 4
    · have hn : needZ k p e wh b l = upZ (perZ wh * 4096 + perZ p * b) (b + 4096) := by
        unfold needZ
        rw [if_neg (by omega), if_neg (by omega), if_neg (by omega), if_pos hv]
      have b1 := perZ_b wh
      have b2 := perZ_b p
      have b3 : 0 ≤ b ∧ b ≤ 1099511627776 := by unfold FineP at hf; omega
      have b4 : 0 ≤ perZ p * b := Int.mul_nonneg b2.1 b3.1
      have b5 : perZ p * b ≤ 1048576 * 1099511627776 := Int.mul_le_mul b2.2 b3.2 b3.1 (by omega)
      rw [hn]
      clear hn hf
      obtain rfl | rfl | rfl : k = 2 ∨ k = 3 ∨ k = 4 := by omega
      all_goals
        go_enter Try.func28, Try.ntmps28
        go_wp2_with (first | (go_at_call 32; refine (refCright_any _ _ _ _ _ _ _).mono ?_; rintro e w' ⟨rfl, hb⟩; obtain ⟨hc, hf⟩ := bcell hb; have hz := hb.size; (try simp at hz); (try have hz1 : w.heap.size < w'.heap.size := by omega); (try have hz2 : w.heap.size + 1 < w'.heap.size := by omega); (try have hz3 : w.heap.size < w'.heap.size + 1 := by omega); (try have hz4 : w.heap.size < w'.heap.size + 1 + 1 := by omega); (try have hz5 : ¬ w.heap.size = w'.heap.size := by omega); (try have hz6 : w.heap.size + 1 + 1 < w'.heap.size := by omega)))
        go_quiet ((first
          | (go_at_call 30; exact quiet_same (refPer_any _ _))
          | (go_at_call 36; exact quiet_same (refUp_any _ _ _ (by omega) (by omega) (by omega)))))
        go_wp2
        go_ret
        exact ⟨rfl, below_drewN (below_box hb) _⟩
    · by_cases h1 : k = 1
      · have hn : needZ k p e wh b l = perZ p := by
          unfold needZ
          rw [if_neg (by omega), if_pos h1]
        rw [hn]
        clear hn hk hv
        subst h1
        go_enter Try.func28, Try.ntmps28
        go_wp2_with (first | (go_at_call 32; refine (refCright_any _ _ _ _ _ _ _).mono ?_; rintro e w' ⟨rfl, hb⟩; obtain ⟨hc, hf⟩ := bcell hb; have hz := hb.size; (try simp at hz); (try have hz1 : w.heap.size < w'.heap.size := by omega); (try have hz2 : w.heap.size + 1 < w'.heap.size := by omega); (try have hz3 : w.heap.size < w'.heap.size + 1 := by omega); (try have hz4 : w.heap.size < w'.heap.size + 1 + 1 := by omega); (try have hz5 : ¬ w.heap.size = w'.heap.size := by omega); (try have hz6 : w.heap.size + 1 + 1 < w'.heap.size := by omega)) | (go_at_call 30; refine (refPer_any _ _).mono ?_; rintro e w' ⟨rfl, rfl⟩))
        go_ret
        exact ⟨rfl, below_box hb⟩
      · by_cases h5 : k = 5
        · have hn : needZ k p e wh b l = perZ l := by
            unfold needZ
            rw [if_neg (by omega), if_neg (by omega), if_pos h5]
          rw [hn]
          clear hn hk hv h1
          subst h5
          go_enter Try.func28, Try.ntmps28
          go_wp2_with (first | (go_at_call 32; refine (refCright_any _ _ _ _ _ _ _).mono ?_; rintro e w' ⟨rfl, hb⟩; obtain ⟨hc, hf⟩ := bcell hb; have hz := hb.size; (try simp at hz); (try have hz1 : w.heap.size < w'.heap.size := by omega); (try have hz2 : w.heap.size + 1 < w'.heap.size := by omega); (try have hz3 : w.heap.size < w'.heap.size + 1 := by omega); (try have hz4 : w.heap.size < w'.heap.size + 1 + 1 := by omega); (try have hz5 : ¬ w.heap.size = w'.heap.size := by omega); (try have hz6 : w.heap.size + 1 + 1 < w'.heap.size := by omega)) | (go_at_call 30; refine (refPer_any _ _).mono ?_; rintro e w' ⟨rfl, rfl⟩))
          go_ret
          exact ⟨rfl, below_box hb⟩
        · have hn : needZ k p e wh b l = 0 := by
            unfold needZ
            rw [if_neg (by omega), if_neg (by omega), if_neg (by omega), if_neg (by omega)]
          rw [hn]
          clear hn
          obtain rfl | rfl : k = 6 ∨ k = 7 := by omega
          all_goals
            go_enter Try.func28, Try.ntmps28
            go_wp2_with (first | (go_at_call 32; refine (refCright_any _ _ _ _ _ _ _).mono ?_; rintro e w' ⟨rfl, hb⟩; obtain ⟨hc, hf⟩ := bcell hb; have hz := hb.size; (try simp at hz); (try have hz1 : w.heap.size < w'.heap.size := by omega); (try have hz2 : w.heap.size + 1 < w'.heap.size := by omega); (try have hz3 : w.heap.size < w'.heap.size + 1 := by omega); (try have hz4 : w.heap.size < w'.heap.size + 1 + 1 := by omega); (try have hz5 : ¬ w.heap.size = w'.heap.size := by omega); (try have hz6 : w.heap.size + 1 + 1 < w'.heap.size := by omega)) | (go_at_call 30; refine (refPer_any _ _).mono ?_; rintro e w' ⟨rfl, rfl⟩))
            go_ret
            exact ⟨rfl, below_box hb⟩
  · have hn : needZ k p e wh b l = 0 := by unfold needZ; rw [if_pos hr]
    rw [hn]
    have hr' : (rightZ k p e wh b l == 0) = false := by simp; exact hr
    clear hn
    go_enter Try.func28, Try.ntmps28
    go_wp2_with (first | (go_at_call 32; refine (refCright_any _ _ _ _ _ _ _).mono ?_; rintro e w' ⟨rfl, hb⟩; obtain ⟨hc, hf⟩ := bcell hb; have hz := hb.size; (try simp at hz); (try have hz1 : w.heap.size < w'.heap.size := by omega); (try have hz2 : w.heap.size + 1 < w'.heap.size := by omega); (try have hz3 : w.heap.size < w'.heap.size + 1 := by omega); (try have hz4 : w.heap.size < w'.heap.size + 1 + 1 := by omega); (try have hz5 : ¬ w.heap.size = w'.heap.size := by omega); (try have hz6 : w.heap.size + 1 + 1 < w'.heap.size := by omega)))
    go_ret
    exact ⟨rfl, below_box hb⟩
end Go.Proofs.Ytpkfaempgibfaaa
