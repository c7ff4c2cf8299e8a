/- What the laws of the layer 'police' begin with. -/
import Derived.Test.YtndmmhljphlhjaaEqP
namespace Go.Proofs.Ytndmmhljphlhjaa
set_option linter.unusedVariables false
set_option linter.unusedSimpArgs false
open Go.RowKit
set_option maxRecDepth 100000
set_option maxHeartbeats 4000000
theorem take_at {lo hi : Nat} {c : Pz} {S S' : S4} {c0 c1 c2 c3 d0 d1 d2 d3 : Int} {P : Nat} {t clp v : Int} {z : Bool} {w : World} (hz : (clp == 0) = z) (h : PolS lo hi c S c0 c1 c2 c3 P w) (hM : S.Bd 2305843009213693952) (b0 : 0 ≤ c0 ∧ c0 ≤ 1000000) (b1 : 0 ≤ c1 ∧ c1 ≤ 1000000) (b2 : 0 ≤ c2 ∧ c2 ≤ 1000000) (b3 : 0 ≤ c3 ∧ c3 ≤ 1000000) (hv : c.last S t z = v) (hS : c.nxt S t z = S')
    (e0 : c0 + 1 = d0) (e1 : c1 + hit v 1 = d1) (e2 : c2 + hit v 2 = d2) (e3 : c3 + hit v 3 = d3) :
    Calls Try.prog 29 #[.pointer (some ⟨P, 0, none⟩), .int .i64 t, .int .i64 clp] w fun e w' => e = .returned (.int .i64 v) ∧ PolS lo hi c S' d0 d1 d2 d3 P w' ∧ ChgL (fun k => lo ≤ k ∧ k < hi) w w' := by
  subst hv hS e0 e1 e2 e3
  exact take_S t clp z hz w h hM b0 b1 b2 b3
theorem bel_of {B lo hi : Nat} {w w' : World} (h : ChgL (fun k => lo ≤ k ∧ k < hi) w w') (hB : B ≤ lo) (hw : B ≤ w.heap.size) : Below B w w' := h.below (fun k hk => by omega) hw
def AwS (x : S4) : Prop := x.Bd 2305843009213693952
theorem awake07 (w : World) : Calls Try.prog 27 #[] w fun e w' => e = .returned (.bool true) ∧ Below w.heap.size w w' := by
  have d0 : S4.zero.Bd 2305843009213693952 := by unfold S4.Bd S4.zero; decide
  have d1 : S4.Bd ⟨1, true, 10, true⟩ 2305843009213693952 := by unfold S4.Bd; decide
  have d2 : S4.Bd ⟨2, true, 20, true⟩ 2305843009213693952 := by unfold S4.Bd; decide
  have d3 : S4.Bd ⟨3, true, 20, true⟩ 2305843009213693952 := by unfold S4.Bd; decide
  have v1 : (pzOf 4 1 0 10 10).last S4.zero 0 true = 1 := by kernel_rfl
  have v2 : (pzOf 4 1 0 10 10).last ⟨1, true, 10, true⟩ 1 true = 1 := by kernel_rfl
  have v3 : (pzOf 4 1 0 10 10).last ⟨2, true, 20, true⟩ 2 true = 2 := by kernel_rfl
  have v4 : (pzOf 4 1 0 10 10).last ⟨3, true, 20, true⟩ 3 false = 1 := by kernel_rfl
  have n1 : (pzOf 4 1 0 10 10).nxt S4.zero 0 true = ⟨1, true, 10, true⟩ := by kernel_rfl
  have n2 : (pzOf 4 1 0 10 10).nxt ⟨1, true, 10, true⟩ 1 true = ⟨2, true, 20, true⟩ := by kernel_rfl
  have n3 : (pzOf 4 1 0 10 10).nxt ⟨2, true, 20, true⟩ 2 true = ⟨3, true, 20, true⟩ := by kernel_rfl
  have he : ∀ w, (binOp .eql 55 (.agg #[.int .i64 4, .int .i64 3, .int .i64 1, .int .i64 0]) (.agg #[.int .i64 4, .int .i64 3, .int .i64 1, .int .i64 0])).run Try.prog w = .ok (.bool true) w := eq_fourI (by simp) (by decide) (by decide)
  have hR : rightZ 4 1 0 10 10 0 = 0 := by kernel_rfl
  go_enter Try.func27, Try.ntmps27
  go_wp2_with (first
    | (go_at_call 28; refine (new_S 4 1 0 10 10 0 _ hR).mono ?_; rintro en w1 ⟨P, rfl, H1, B1⟩; have L1 := B1.size)
    | (go_at_call 29; (with_reducible refine (take_at (d0 := 1) (d1 := 1) (d2 := 0) (d3 := 0) (z := true) rfl H1 d0 (by decide) (by decide) (by decide) (by decide) v1 n1 (by decide) (by decide) (by decide) (by decide)).mono ?_); rintro en w2 ⟨rfl, H2, G2⟩; clear H1; have B2 := B1.trans (bel_of G2 (Nat.le_refl _) L1); have L2 := B2.size; clear B1 G2 L1)
    | (go_at_call 29; (with_reducible refine (take_at (d0 := 2) (d1 := 2) (d2 := 0) (d3 := 0) (z := true) rfl H2 d1 (by decide) (by decide) (by decide) (by decide) v2 n2 (by decide) (by decide) (by decide) (by decide)).mono ?_); rintro en w3 ⟨rfl, H3, G3⟩; clear H2; have B3 := B2.trans (bel_of G3 (Nat.le_refl _) L2); have L3 := B3.size; clear B2 G3 L2)
    | (go_at_call 29; (with_reducible refine (take_at (d0 := 3) (d1 := 2) (d2 := 1) (d3 := 0) (z := true) rfl H3 d2 (by decide) (by decide) (by decide) (by decide) v3 n3 (by decide) (by decide) (by decide) (by decide)).mono ?_); rintro en w4 ⟨rfl, H4, G4⟩; clear H3; have B4 := B3.trans (bel_of G4 (Nat.le_refl _) L3); have L4 := B4.size; clear B3 G4 L3)
    | (go_at_call 29; (with_reducible refine (take_at (d0 := 4) (d1 := 3) (d2 := 1) (d3 := 0) (z := false) rfl H4 d3 (by decide) (by decide) (by decide) (by decide) v4 rfl (by decide) (by decide) (by decide) (by decide)).mono ?_); rintro en w5 ⟨rfl, H5, G5⟩; clear H4; have B5 := B4.trans (bel_of G5 (Nat.le_refl _) L4); have L5 := B5.size; clear B4 G5 L4)
    | (go_at_call 32; (with_reducible refine (counts_S _ H5).mono ?_); rintro en w6 ⟨rfl, B6⟩; have B7 := B5.trans (B6.mono L5)))
  go_ret
  exact ⟨ret_bool (by simp), by (repeat' (first | exact Below.refl _ _ | assumption | (refine Below.grown ?_ (by assumption) (by first | omega | (simp; omega)) (by simp [Value.ownBlock]; try omega)) | (refine below_drewN ?_ _) | (refine Below.drew ?_) | (refine Below.alloc ?_ (by first | omega | (simp; done) | (simp; omega)) _) | (refine Below.setCell ?_ (by first | omega | (simp; done) | (simp; omega)) _) | (refine below_then ?_ (Aft.below _)) | (apply below_then; rotate_left; assumption)))⟩
theorem clp_any (g : Int) (low : Bool) (w : World) : Calls Try.prog 30 #[.agg #[.int .u32 g, .bool low]] w fun e w' => e = .returned (.int .i64 (if low then 1 else 0)) ∧ Below w.heap.size w w' := by
  cases low
  all_goals
    go_enter Try.func30, Try.ntmps30
    go_wp2
    go_ret
    exact ⟨rfl, by (repeat' (first | exact Below.refl _ _ | assumption | (refine Below.grown ?_ (by assumption) (by first | omega | (simp; omega)) (by simp [Value.ownBlock]; try omega)) | (refine below_drewN ?_ _) | (refine Below.drew ?_) | (refine Below.alloc ?_ (by first | omega | (simp; done) | (simp; omega)) _) | (refine Below.setCell ?_ (by first | omega | (simp; done) | (simp; omega)) _) | (refine below_then ?_ (Aft.below _)) | (apply below_then; rotate_left; assumption)))⟩
end Go.Proofs.Ytndmmhljphlhjaa
