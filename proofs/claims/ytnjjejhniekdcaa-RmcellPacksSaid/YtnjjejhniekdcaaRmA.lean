/- rmcell.Turn and Mark; what the laws of rmcell begin with. -/
import Derived.Test.YtnjjejhniekdcaaRmSpec
namespace Go.Proofs.Ytnjjejhniekdcaa
set_option linter.unusedVariables false
set_option linter.unusedSimpArgs false
open Go.RowKit
set_option maxRecDepth 100000
set_option maxHeartbeats 4000000
theorem turn_any (bk nr ci ni ra : Bool) (er cc mc ql sn : Int) (w : World) :
    Calls Try.prog 18 #[.agg (rmV bk nr ci ni ra er cc mc ql sn).toArray] w fun e w' => e = .returned (.agg (rmV true false ci ni ra er cc mc ql sn).toArray) ∧ Below w.heap.size w w' := by
  go_enter Try.func18, Try.ntmps18
  go_wp2
  refine bodyPost_ret (results_c1 rfl _ _ rfl (load31 (cs := rmV true false ci ni ra er cc mc ql sn) (fun j v hv => cell_top (by simp) (by simpa using hv)) rfl)) rfl ⟨rfl, by (repeat' (first | (with_reducible exact Below.refl _ _) | (with_reducible assumption) | (with_reducible refine below_drewN ?_ _) | (with_reducible refine Below.drew ?_) | ((with_reducible refine Below.alloc ?_ ?_ _); (rotate_left; focus (first | omega | (simp; done) | (simp; omega)))) | ((with_reducible refine Below.setCell ?_ ?_ _); (rotate_left; focus (first | omega | (simp; done) | (simp; omega)))) | (with_reducible refine Below.grown ?_ (by assumption) (by first | omega | (simp; omega)) (by simp [Value.ownBlock]; try omega)) | (with_reducible refine below_then ?_ (Aft.below _)) | (with_reducible apply below_then; rotate_left; assumption)))⟩
theorem mark_any (bk nr ci ni ra : Bool) (er cc mc ql sn x : Int) (a b : Bool) (w : World) (x0 : 0 ≤ x) (x1 : x < 65536) (er' : Int) (he : er' = if rgtZ x then min er x else er) :
    Calls Try.prog 17 #[.agg (rmV bk nr ci ni ra er cc mc ql sn).toArray, .int .u16 x, .bool a, .bool b] w fun e w' => e = .returned (.agg (rmV bk nr (ci || a) (ni || b) ra er' cc mc ql sn).toArray) ∧ Below w.heap.size w w' := by
  obtain ⟨r, hr⟩ : ∃ r, rgtZ x = r := ⟨_, rfl⟩
  rw [hr] at he
  have HR := Lib.hid hr
  clear hr
  cases r with
  | true =>
    rw [if_pos rfl] at he
    by_cases hx : x < er
    · obtain rfl : er' = x := by omega
      clear he
      cases ci <;> cases ni
      all_goals
        go_enter Try.func17, Try.ntmps17
        go_wp2_with (go_at_call 19; (with_reducible refine (right_int _ _ x0 x1).mono ?_); rw [HR.out]; rintro e w' ⟨rfl, rfl⟩)
        refine bodyPost_ret (results_c1 rfl _ _ rfl (load31 (cs := rmV _ _ _ _ _ _ _ _ _ _) (fun j v hv => cell_top (by simp) (by simpa using hv)) rfl)) rfl ⟨rfl, by (repeat' (first | (with_reducible exact Below.refl _ _) | (with_reducible assumption) | (with_reducible refine below_drewN ?_ _) | (with_reducible refine Below.drew ?_) | ((with_reducible refine Below.alloc ?_ ?_ _); (rotate_left; focus (first | omega | (simp; done) | (simp; omega)))) | ((with_reducible refine Below.setCell ?_ ?_ _); (rotate_left; focus (first | omega | (simp; done) | (simp; omega)))) | (with_reducible refine Below.grown ?_ (by assumption) (by first | omega | (simp; omega)) (by simp [Value.ownBlock]; try omega)) | (with_reducible refine below_then ?_ (Aft.below _)) | (with_reducible apply below_then; rotate_left; assumption)))⟩
    · obtain rfl : er' = er := by omega
      clear he
      cases ci <;> cases ni
      all_goals
        go_enter Try.func17, Try.ntmps17
        go_wp2_with (go_at_call 19; (with_reducible refine (right_int _ _ x0 x1).mono ?_); rw [HR.out]; rintro e w' ⟨rfl, rfl⟩)
        refine bodyPost_ret (results_c1 rfl _ _ rfl (load31 (cs := rmV _ _ _ _ _ _ _ _ _ _) (fun j v hv => cell_top (by simp) (by simpa using hv)) rfl)) rfl ⟨rfl, by (repeat' (first | (with_reducible exact Below.refl _ _) | (with_reducible assumption) | (with_reducible refine below_drewN ?_ _) | (with_reducible refine Below.drew ?_) | ((with_reducible refine Below.alloc ?_ ?_ _); (rotate_left; focus (first | omega | (simp; done) | (simp; omega)))) | ((with_reducible refine Below.setCell ?_ ?_ _); (rotate_left; focus (first | omega | (simp; done) | (simp; omega)))) | (with_reducible refine Below.grown ?_ (by assumption) (by first | omega | (simp; omega)) (by simp [Value.ownBlock]; try omega)) | (with_reducible refine below_then ?_ (Aft.below _)) | (with_reducible apply below_then; rotate_left; assumption)))⟩
  | false =>
    rw [if_neg (by decide)] at he
    subst he
    cases ci <;> cases ni
    all_goals
      go_enter Try.func17, Try.ntmps17
      go_wp2_with (go_at_call 19; (with_reducible refine (right_int _ _ x0 x1).mono ?_); rw [HR.out]; rintro e w' ⟨rfl, rfl⟩)
      refine bodyPost_ret (results_c1 rfl _ _ rfl (load31 (cs := rmV _ _ _ _ _ _ _ _ _ _) (fun j v hv => cell_top (by simp) (by simpa using hv)) rfl)) rfl ⟨rfl, by (repeat' (first | (with_reducible exact Below.refl _ _) | (with_reducible assumption) | (with_reducible refine below_drewN ?_ _) | (with_reducible refine Below.drew ?_) | ((with_reducible refine Below.alloc ?_ ?_ _); (rotate_left; focus (first | omega | (simp; done) | (simp; omega)))) | ((with_reducible refine Below.setCell ?_ ?_ _); (rotate_left; focus (first | omega | (simp; done) | (simp; omega)))) | (with_reducible refine Below.grown ?_ (by assumption) (by first | omega | (simp; omega)) (by simp [Value.ownBlock]; try omega)) | (with_reducible refine below_then ?_ (Aft.below _)) | (with_reducible apply below_then; rotate_left; assumption)))⟩
end Go.Proofs.Ytnjjejhniekdcaa
