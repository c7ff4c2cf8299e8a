/- The walks of more laws of the layer 'cost', whole: each tells true, of every argument. -/
import Derived.Test.YtpkfaempgibfaaaCostW
import Derived.Test.YtpkfaempgibfaaaCostL
import Derived.Test.YtpkfaempgibfaaaContrF
import Derived.KernelRfl
namespace Go.Proofs.Ytpkfaempgibfaaa
set_option linter.unusedVariables false
set_option linter.unusedSimpArgs false
open Go.RowKit
set_option maxRecDepth 100000
set_option maxHeartbeats 4000000
theorem costBetween_any (k p e wh b l : Int) (w : World) :
    Calls Try.prog 10 #[.agg #[.int .i64 k, .int .i64 p, .int .i64 e, .int .i64 wh, .int .i64 b, .int .i64 l]] w fun e w' => e = .returned (.bool true) ∧ Below w.heap.size w w' := by
  have nb := needZ_le k p e wh b l
  by_cases hr : rightZ k p e wh b l = 0
  · have hf := rightZ_zero.1 hr
    obtain ⟨n0, n1⟩ := needZ_b k p e wh b l hf
    by_cases hk : 2 ≤ k ∧ k ≤ 4
    · have h1 : 1 ≤ p ∧ p ≤ wh ∧ 0 ≤ b := by unfold FineP at hf; omega
      have h2 := mix_lo h1.2.2 (perZ_anti h1.1 h1.2.1)
      rw [← needZ_vbr hf hk] at h2
      have h3 : needZ k p e wh 0 l = perZ wh := by
        rw [needZ_vbr (by unfold FineP at hf ⊢; omega) hk, mix_zero]
      clear hf
      go_enter Try.func10, Try.ntmps10
      go_wp2_with (first | (go_at_call 26; refine (awake17 _).mono ?_; rintro e w' ⟨rfl, hb⟩; obtain ⟨hc, hf⟩ := bcell hb; have hz := hb.size; (try simp at hz); (try have hz1 : w.heap.size < w'.heap.size := by omega); (try have hz2 : w.heap.size + 1 < w'.heap.size := by omega)) | (go_at_call 27; refine (need_any _ _ _ _ _ _ _).mono ?_; rintro e w' ⟨rfl, hb⟩; obtain ⟨hc, hf⟩ := bcell hb; have hz := hb.size; (try simp at hz); (try have hz1 : w.heap.size < w'.heap.size := by omega); (try have hz2 : w.heap.size + 1 < w'.heap.size := by omega)) | (go_at_call 31; refine (cright_any _ _ _ _ _ _ _).mono ?_; rintro e w' ⟨rfl, hb⟩; obtain ⟨hc, hf⟩ := bcell hb; have hz := hb.size; (try simp at hz); (try have hz1 : w.heap.size < w'.heap.size := by omega); (try have hz2 : w.heap.size + 1 < w'.heap.size := by omega)) | (go_at_call 29; refine (per_any _ _).mono ?_; rintro e w' ⟨rfl, rfl⟩))
      have hq : w.heap.size < w'.heap.size + 1 := by omega
      refine wp_region_hold (by kernel_rfl) (by kernel_rfl) ?_
      repeat (go_big_quiet_step ((first | (go_at_call 27; exact aft_of (need_any _ _ _ _ _ _ _)) | (go_at_call 29; exact aft_same (per_any _ _)))))
      refine wpQuiet_nil ?_; intro _ hw'; obtain ⟨g, hw''⟩ := hw'; subst hw''; have hg := g.below
      go_wp2
      go_ret
      exact ⟨ret_bool (by simp), by (repeat' (first | exact Below.refl _ _ | assumption | (refine Below.alloc ?_ (by first | omega | (simp; done) | (simp; omega)) _) | (refine Below.setCell ?_ (by first | omega | (simp; done) | (simp; omega)) _) | (refine below_then ?_ (Aft.below _)) | (apply below_then; rotate_left; assumption)))⟩
    · clear hf
      go_enter Try.func10, Try.ntmps10
      go_wp2_with (first | (go_at_call 26; refine (awake17 _).mono ?_; rintro e w' ⟨rfl, hb⟩; obtain ⟨hc, hf⟩ := bcell hb; have hz := hb.size; (try simp at hz); (try have hz1 : w.heap.size < w'.heap.size := by omega); (try have hz2 : w.heap.size + 1 < w'.heap.size := by omega)) | (go_at_call 27; refine (need_any _ _ _ _ _ _ _).mono ?_; rintro e w' ⟨rfl, hb⟩; obtain ⟨hc, hf⟩ := bcell hb; have hz := hb.size; (try simp at hz); (try have hz1 : w.heap.size < w'.heap.size := by omega); (try have hz2 : w.heap.size + 1 < w'.heap.size := by omega)) | (go_at_call 31; refine (cright_any _ _ _ _ _ _ _).mono ?_; rintro e w' ⟨rfl, hb⟩; obtain ⟨hc, hf⟩ := bcell hb; have hz := hb.size; (try simp at hz); (try have hz1 : w.heap.size < w'.heap.size := by omega); (try have hz2 : w.heap.size + 1 < w'.heap.size := by omega)) | (go_at_call 29; refine (per_any _ _).mono ?_; rintro e w' ⟨rfl, rfl⟩))
      all_goals
        go_ret
        exact ⟨ret_bool (by simp), by (repeat' (first | exact Below.refl _ _ | assumption | (refine Below.alloc ?_ (by first | omega | (simp; done) | (simp; omega)) _) | (refine Below.setCell ?_ (by first | omega | (simp; done) | (simp; omega)) _) | (refine below_then ?_ (Aft.below _)) | (apply below_then; rotate_left; assumption)))⟩
  · have hn := needZ_bad hr
    have hr' : (rightZ k p e wh b l == 0) = false := by simp; exact hr
    go_enter Try.func10, Try.ntmps10
    go_wp2_with (first | (go_at_call 26; refine (awake17 _).mono ?_; rintro e w' ⟨rfl, hb⟩; obtain ⟨hc, hf⟩ := bcell hb; have hz := hb.size; (try simp at hz); (try have hz1 : w.heap.size < w'.heap.size := by omega); (try have hz2 : w.heap.size + 1 < w'.heap.size := by omega)) | (go_at_call 27; refine (need_any _ _ _ _ _ _ _).mono ?_; rintro e w' ⟨rfl, hb⟩; obtain ⟨hc, hf⟩ := bcell hb; have hz := hb.size; (try simp at hz); (try have hz1 : w.heap.size < w'.heap.size := by omega); (try have hz2 : w.heap.size + 1 < w'.heap.size := by omega)) | (go_at_call 31; refine (cright_any _ _ _ _ _ _ _).mono ?_; rintro e w' ⟨rfl, hb⟩; obtain ⟨hc, hf⟩ := bcell hb; have hz := hb.size; (try simp at hz); (try have hz1 : w.heap.size < w'.heap.size := by omega); (try have hz2 : w.heap.size + 1 < w'.heap.size := by omega)))
    go_ret
    exact ⟨ret_bool (by simp), by (repeat' (first | exact Below.refl _ _ | assumption | (refine Below.alloc ?_ (by first | omega | (simp; done) | (simp; omega)) _) | (refine Below.setCell ?_ (by first | omega | (simp; done) | (simp; omega)) _) | (refine below_then ?_ (Aft.below _)) | (apply below_then; rotate_left; assumption)))⟩
end Go.Proofs.Ytpkfaempgibfaaa
