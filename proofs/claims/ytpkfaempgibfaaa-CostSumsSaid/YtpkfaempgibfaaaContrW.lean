/- The walks of the layer 'contract' and of its reference. -/
import Derived.Test.YtpkfaempgibfaaaKit
import Derived.Test.YtpkfaempgibfaaaContrM
namespace Go.Proofs.Ytpkfaempgibfaaa
set_option linter.unusedVariables false
set_option linter.unusedSimpArgs false
open Go.RowKit
set_option maxRecDepth 100000
set_option maxHeartbeats 4000000
theorem span_any (n least : Int) (w : World) : Calls Try.prog 37 #[.int .i64 n, .int .i64 least] w fun e w' => e = .returned (.bool (spanZ n least)) ∧ w = w' := by
  go_enter Try.func37, Try.ntmps37
  go_wp2
  all_goals
    go_ret
    refine ⟨ret_bool ?_, rfl⟩
    rw [Bool.eq_iff_iff]; simp [spanZ]; omega
theorem from_any (n lo hi : Int) (w : World) : Calls Try.prog 38 #[.int .i64 n, .int .i64 lo, .int .i64 hi] w fun e w' => e = .returned (.bool (decide (lo ≤ n ∧ n ≤ hi))) ∧ w = w' := by
  go_enter Try.func38, Try.ntmps38
  go_wp2
  all_goals
    go_ret
    refine ⟨ret_bool ?_, rfl⟩
    rw [Bool.eq_iff_iff]; simp; omega
theorem cright_any (k p e wh b l : Int) (w : World) :
    Calls Try.prog 31 #[.agg #[.int .i64 k, .int .i64 p, .int .i64 e, .int .i64 wh, .int .i64 b, .int .i64 l]] w fun en w' => en = .returned (.int .i64 (rightZ k p e wh b l)) ∧ Below w.heap.size w w' := by
  go_enter Try.func31, Try.ntmps31
  go_wp2_with (go_at_call 37; refine (span_any _ _ _).mono ?_; rintro e w' ⟨rfl, rfl⟩)
  all_goals
    go_ret
    refine ⟨ret_int (rightZ_of ?_), (Below.refl _ _).alloc (Nat.le_refl _) _⟩
    simp [spanZ] at *
    try unfold FineP
    omega
theorem refCright_any (k p e wh b l : Int) (w : World) :
    Calls Try.prog 32 #[.agg #[.int .i64 k, .int .i64 p, .int .i64 e, .int .i64 wh, .int .i64 b, .int .i64 l]] w fun en w' => en = .returned (.int .i64 (rightZ k p e wh b l)) ∧ Below w.heap.size w w' := by
  go_enter Try.func32, Try.ntmps32
  go_wp2_with (go_at_call 38; refine (from_any _ _ _ _).mono ?_; rintro e w' ⟨rfl, rfl⟩)
  all_goals
    go_ret
    refine ⟨ret_int (rightZ_of ?_), (Below.refl _ _).alloc (Nat.le_refl _) _⟩
    simp at *
    try unfold FineP
    omega
end Go.Proofs.Ytpkfaempgibfaaa
