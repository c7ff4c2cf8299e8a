/- The walks of the layer 'contract' and of its reference. -/
import Derived.Test.YtndmmhljphlhjaaKit
import Derived.Test.YtndmmhljphlhjaaContrM
namespace Go.Proofs.Ytndmmhljphlhjaa
set_option linter.unusedVariables false
set_option linter.unusedSimpArgs false
open Go.RowKit
set_option maxRecDepth 100000
set_option maxHeartbeats 4000000
theorem span_any (n least : Int) (w : World) : Calls Try.prog 34 #[.int .i64 n, .int .i64 least] w fun e w' => e = .returned (.bool (spanZ n least)) ∧ w = w' := by
  go_enter Try.func34, Try.ntmps34
  go_wp2
  all_goals
    go_ret
    refine ⟨ret_bool ?_, rfl⟩
    rw [Bool.eq_iff_iff]; simp [spanZ]; omega
theorem from_any (n lo hi : Int) (w : World) : Calls Try.prog 36 #[.int .i64 n, .int .i64 lo, .int .i64 hi] w fun e w' => e = .returned (.bool (decide (lo ≤ n ∧ n ≤ hi))) ∧ w = w' := by
  go_enter Try.func36, Try.ntmps36
  go_wp2
  all_goals
    go_ret
    refine ⟨ret_bool ?_, rfl⟩
    rw [Bool.eq_iff_iff]; simp; omega
theorem cright_any (k p e wh b l : Int) (w : World) :
    Calls Try.prog 16 #[.agg #[.int .i64 k, .int .i64 p, .int .i64 e, .int .i64 wh, .int .i64 b, .int .i64 l]] w fun en w' => en = .returned (.int .i64 (rightZ k p e wh b l)) ∧ Below w.heap.size w w' := by
  go_enter Try.func16, Try.ntmps16
  go_wp2_with (go_at_call 34; refine (span_any _ _ _).mono ?_; rintro e w' ⟨rfl, rfl⟩)
  all_goals
    go_ret
    refine ⟨ret_int (rightZ_of ?_), (Below.refl _ _).alloc (Nat.le_refl _) _⟩
    simp [spanZ] at *
    try unfold FineP
    omega
theorem refCright_any (k p e wh b l : Int) (w : World) :
    Calls Try.prog 20 #[.agg #[.int .i64 k, .int .i64 p, .int .i64 e, .int .i64 wh, .int .i64 b, .int .i64 l]] w fun en w' => en = .returned (.int .i64 (rightZ k p e wh b l)) ∧ Below w.heap.size w w' := by
  go_enter Try.func20, Try.ntmps20
  go_wp2_with (go_at_call 36; refine (from_any _ _ _ _).mono ?_; rintro e w' ⟨rfl, rfl⟩)
  all_goals
    go_ret
    refine ⟨ret_int (rightZ_of ?_), (Below.refl _ _).alloc (Nat.le_refl _) _⟩
    simp at *
    try unfold FineP
    omega
end Go.Proofs.Ytndmmhljphlhjaa
