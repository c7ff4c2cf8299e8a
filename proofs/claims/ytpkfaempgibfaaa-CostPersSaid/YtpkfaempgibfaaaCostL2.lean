/- The walks of more laws of the layer 'cost', whole: each tells true, of every argument. -/
import Derived.Test.YtpkfaempgibfaaaCostW
import Derived.Test.YtpkfaempgibfaaaCostL
import Derived.Test.YtpkfaempgibfaaaContrF
import Derived.KernelRfl
namespace Go.Proofs.Ytpkfaempgibfaaa
set_option linter.unusedVariables false
set_option linter.unusedSimpArgs false
open Go.RowKit
set_option maxRecDepth 100000
set_option maxHeartbeats 4000000
theorem costPers_any (a b : Int) (w : World) (a0 : -9223372036854775808 ≤ a) (a1 : a ≤ 9223372036854775807) (b0 : -9223372036854775808 ≤ b) (b1 : b ≤ 9223372036854775807) :
    Calls Try.prog 11 #[.int .i64 a, .int .i64 b] w fun e w' => e = .returned (.bool true) ∧ Below w.heap.size w w' := by
  obtain ⟨x, hx⟩ : ∃ x, x = min a b := ⟨_, rfl⟩
  obtain ⟨y, hy⟩ : ∃ y, y = max a b := ⟨_, rfl⟩
  have fx : (if b < a then b else a) = x := by rw [hx]; split <;> omega
  have fy : (if a < b then b else a) = y := by rw [hy]; split <;> omega
  have hxy : x ≤ y := by omega
  have hb := perZ_b x
  have hb' := perZ_b y
  have hx1 : -9223372036854775808 ≤ x := by omega
  have hy1 : y ≤ 9223372036854775807 := by omega
  clear hx hy
  by_cases h : x < 1
  · have hz : perZ x = 0 := by unfold perZ; rw [if_pos h]
    go_enter Try.func11, Try.ntmps11
    go_wp2_with (first | (go_at_call 26; refine (awake17 _).mono ?_; rintro e w' ⟨rfl, hb⟩; obtain ⟨hc, hf⟩ := bcell hb; have hz := hb.size; (try simp at hz); (try have hz1 : w.heap.size < w'.heap.size := by omega); (try have hz2 : w.heap.size + 1 < w'.heap.size := by omega)) | (go_at_call 29; refine (per_any _ _).mono ?_; rintro e w' ⟨rfl, rfl⟩))
    go_ret
    exact ⟨ret_bool (by simp), by assumption⟩
  · obtain ⟨d1, d2, d3, d4, d5, d6⟩ := perZ_spec (x := x) (by omega)
    have hanti := perZ_anti (a := x) (b := y) (by omega) hxy
    by_cases hu : 1048576 < x
    · have d2 := d2 hu
      clear d3 d4 d5 d6
      go_enter Try.func11, Try.ntmps11
      go_wp2_with (first | (go_at_call 26; refine (awake17 _).mono ?_; rintro e w' ⟨rfl, hb⟩; obtain ⟨hc, hf⟩ := bcell hb; have hz := hb.size; (try simp at hz); (try have hz1 : w.heap.size < w'.heap.size := by omega); (try have hz2 : w.heap.size + 1 < w'.heap.size := by omega)) | (go_at_call 29; refine (per_any _ _).mono ?_; rintro e w' ⟨rfl, rfl⟩))
      go_ret
      exact ⟨ret_bool (by simp; try omega), by assumption⟩
    · have d6 := d6 (by omega)
      clear d2
      obtain ⟨P, hP⟩ : ∃ P : Int, perZ x * x = P := ⟨_, rfl⟩
      obtain ⟨Q, hQ⟩ : ∃ Q : Int, (perZ x - 1) * x = Q := ⟨_, rfl⟩
      rw [hP] at d3 d6
      rw [hQ] at d4 d5
      go_enter Try.func11, Try.ntmps11
      go_wp2_with (first | (go_at_call 26; refine (awake17 _).mono ?_; rintro e w' ⟨rfl, hb⟩; obtain ⟨hc, hf⟩ := bcell hb; have hz := hb.size; (try simp at hz); (try have hz1 : w.heap.size < w'.heap.size := by omega); (try have hz2 : w.heap.size + 1 < w'.heap.size := by omega)) | (go_at_call 29; refine (per_any _ _).mono ?_; rintro e w' ⟨rfl, rfl⟩))
      go_ret
      exact ⟨ret_bool (by simp; try omega), by assumption⟩
theorem costLess_any (k p e wh b l k' p' e' wh' b' l' : Int) (w : World) :
    Calls Try.prog 13 #[.agg #[.int .i64 k, .int .i64 p, .int .i64 e, .int .i64 wh, .int .i64 b, .int .i64 l], .agg #[.int .i64 k', .int .i64 p', .int .i64 e', .int .i64 wh', .int .i64 b', .int .i64 l']] w fun e w' => e = .returned (.bool true) ∧ Below w.heap.size w w' := by
  by_cases hf : fewZ k p e wh b l k' p' e' wh' b' l' = true
  · have hn : needZ k p e wh b l ≤ needZ k' p' e' wh' b' l' := by
      have h := hf
      unfold fewZ at h
      simp only [decide_eq_true_eq] at h
      obtain ⟨h1, h2, rfl, rfl, h3, h4, h5, h6⟩ := h
      exact needZ_mono (rightZ_zero.1 h1) (rightZ_zero.1 h2) h3 h4 h6
    go_enter Try.func13, Try.ntmps13
    go_wp2_with (first | (go_at_call 26; refine (awake17 _).mono ?_; rintro e w' ⟨rfl, hb⟩; obtain ⟨hc, hf⟩ := bcell hb; have hz := hb.size; (try simp at hz); (try have hz1 : w.heap.size < w'.heap.size := by omega); (try have hz2 : w.heap.size + 1 < w'.heap.size := by omega)))
    have hcell := @Aft.cell w'
    refine wp_region_hold (by kernel_rfl) (by kernel_rfl) ?_
    repeat (go_big_quiet_step ((first | (go_at_call 27; exact aft_of (need_any _ _ _ _ _ _ _)) | (go_at_call 33; exact aft_of (fewer_any _ _ _ _ _ _ _ _ _ _ _ _ _)))))
    refine wpQuiet_nil ?_; intro _ hw'; obtain ⟨g, hw''⟩ := hw'; subst hw''; have hg := g.below
    go_wp2
    go_ret
    exact ⟨ret_bool (by simp; try omega), below_then (below_box2 hb) hg⟩
  · have hf' : fewZ k p e wh b l k' p' e' wh' b' l' = false := by simpa using hf
    go_enter Try.func13, Try.ntmps13
    go_wp2_with (first | (go_at_call 26; refine (awake17 _).mono ?_; rintro e w' ⟨rfl, hb⟩; obtain ⟨hc, hf⟩ := bcell hb; have hz := hb.size; (try simp at hz); (try have hz1 : w.heap.size < w'.heap.size := by omega); (try have hz2 : w.heap.size + 1 < w'.heap.size := by omega)))
    have hcell := @Aft.cell w'
    refine wp_region_hold (by kernel_rfl) (by kernel_rfl) ?_
    repeat (go_big_quiet_step ((first | (go_at_call 27; exact aft_of (need_any _ _ _ _ _ _ _)) | (go_at_call 33; exact aft_of (fewer_any _ _ _ _ _ _ _ _ _ _ _ _ _)))))
    refine wpQuiet_nil ?_; intro _ hw'; obtain ⟨g, hw''⟩ := hw'; subst hw''; have hg := g.below
    go_wp2
    go_ret
    exact ⟨ret_bool (by simp; try omega), below_then (below_box2 hb) hg⟩
end Go.Proofs.Ytpkfaempgibfaaa
