/- The walks of the laws of the layer 'cost', whole: each tells true, of every argument. -/
import Derived.Test.YtpkfaempgibfaaaCostW
import Derived.KernelRfl
namespace Go.Proofs.Ytpkfaempgibfaaa
set_option linter.unusedVariables false
set_option linter.unusedSimpArgs false
open Go.RowKit
set_option maxRecDepth 100000
set_option maxHeartbeats 4000000
theorem awake17 (w : World) : Calls Try.prog 26 #[] w fun e w' => e = .returned (.bool true) ∧ Below w.heap.size w w' := by
  have c1 : perZ 1000 = 1049 := by kernel_rfl
  have c2 : needZ 2 1000 0 10000 4096 0 = 577 := by kernel_rfl
  go_enter Try.func26, Try.ntmps26
  go_wp2_with (first | (go_at_call 29; refine (per_any _ _).mono ?_; rintro e w' ⟨rfl, rfl⟩))
  go_loud (go_at_call 27; refine (need_any _ _ _ _ _ _ _).mono ?_; rintro e w' ⟨rfl, hb⟩; obtain ⟨hc, hf⟩ := bcell hb; have hz := hb.size; (try simp at hz); (try have hz1 : w.heap.size < w'.heap.size := by omega); (try have hz2 : w.heap.size + 1 < w'.heap.size := by omega); (try have hz3 : w.heap.size < w'.heap.size + 1 := by omega); (try have hz4 : w.heap.size < w'.heap.size + 1 + 1 := by omega); (try have hz5 : ¬ w.heap.size = w'.heap.size := by omega); (try have hz6 : w.heap.size + 1 + 1 < w'.heap.size := by omega))
  go_wp2
  go_ret
  exact ⟨rfl, hb⟩
theorem costTells_any (k p e wh b l s : Int) (w : World) (s0 : -9223372036854775808 ≤ s) (s1 : s ≤ 9223372036854775807) :
    Calls Try.prog 9 #[.agg #[.int .i64 k, .int .i64 p, .int .i64 e, .int .i64 wh, .int .i64 b, .int .i64 l], .int .i64 s] w fun e w' => e = .returned (.bool true) ∧ Below w.heap.size w w' := by
  go_enter Try.func9, Try.ntmps9
  go_wp2_with (first | (go_at_call 26; refine (awake17 _).mono ?_; rintro e w' ⟨rfl, hb⟩; obtain ⟨hc, hf⟩ := bcell hb; have hz := hb.size; (try simp at hz); (try have hz1 : w.heap.size < w'.heap.size := by omega); (try have hz2 : w.heap.size + 1 < w'.heap.size := by omega); (try have hz3 : w.heap.size < w'.heap.size + 1 := by omega); (try have hz4 : w.heap.size < w'.heap.size + 1 + 1 := by omega); (try have hz5 : ¬ w.heap.size = w'.heap.size := by omega); (try have hz6 : w.heap.size + 1 + 1 < w'.heap.size := by omega)))
  have hcell := @Aft.cell w'
  have hlt : w.heap.size < w'.heap.size := by omega
  refine wp_region_hold (by kernel_rfl) (by kernel_rfl) ?_
  repeat (go_big_quiet_step ((first | (go_at_call 27; exact aft_of (need_any _ _ _ _ _ _ _)) | (go_at_call 28; exact aft_of (refNeed_any _ _ _ _ _ _ _)) | (go_at_call 29; exact aft_same (per_any _ _)) | (go_at_call 30; exact aft_same (refPer_any _ _)))))
  refine wpQuiet_nil ?_; intro _ hw'; obtain ⟨g, hw''⟩ := hw'; subst hw''; have hg := g.below
  go_wp2
  go_ret
  exact ⟨rfl, below_then (below_box hb) hg⟩
end Go.Proofs.Ytpkfaempgibfaaa
