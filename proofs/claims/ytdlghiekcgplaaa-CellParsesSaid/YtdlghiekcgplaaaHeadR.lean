/- The walks of the reference of the layer 'header'. -/
import Derived.Test.YtdlghiekcgplaaaHeadU
import Derived.Test.YtdlghiekcgplaaaKit3
namespace Go.Proofs.Ytdlghiekcgplaaa
set_option linter.unusedVariables false
set_option linter.unusedSimpArgs false
open Go.RowKit
set_option maxRecDepth 100000
set_option maxHeartbeats 4000000
/-- a header's numbers, and how many bits each has, in memory that the call made. -/
def FieldsPost (w w' : World) (nni : Bool) (g p c t l : Int) (e : Ending) : Prop :=
  ∃ b d, e = .returned (.tuple #[.slice (some ⟨b, 0, none⟩) 5 5, .slice (some ⟨d, 0, none⟩) 5 5]) ∧ w.heap.size ≤ b ∧ b < w'.heap.size ∧ w.heap.size ≤ d ∧ d < w'.heap.size ∧
    w'.cell? ⟨b, 0, none⟩ = some (.int .i64 g) ∧ w'.cell? ⟨b, 1, none⟩ = some (.int .i64 p) ∧ w'.cell? ⟨b, 2, none⟩ = some (.int .i64 c) ∧ w'.cell? ⟨b, 3, none⟩ = some (.int .i64 t) ∧ w'.cell? ⟨b, 4, none⟩ = some (.int .i64 l) ∧
    w'.cell? ⟨d, 0, none⟩ = some (.int .i64 (if nni then 0 else 4)) ∧ w'.cell? ⟨d, 1, none⟩ = some (.int .i64 (if nni then 12 else 8)) ∧ w'.cell? ⟨d, 2, none⟩ = some (.int .i64 16) ∧ w'.cell? ⟨d, 3, none⟩ = some (.int .i64 3) ∧ w'.cell? ⟨d, 4, none⟩ = some (.int .i64 1) ∧
    Below w.heap.size w w'
theorem fields_any (g p c t l : Int) (nni : Bool) (w : World) : Calls Try.prog 41 #[.agg #[.int .i64 g, .int .i64 p, .int .i64 c, .int .i64 t, .int .i64 l], .bool nni] w fun e w' => FieldsPost w w' nni g p c t l e := by
  cases nni
  all_goals
    go_enter Try.func41, Try.ntmps41
    go_wp2
    try (go_quiet (fail); go_wp2)
    go_ret2
    go_light
    refine ⟨_, _, rfl, ?_, ?_, ?_, ?_, ?_, ?_, ?_, ?_, ?_, ?_, ?_, ?_, ?_, ?_, ?_⟩
    all_goals first | (simp; done) | (repeat (first | (with_reducible assumption) | ((with_reducible refine cell_top ?_ rfl); first | (with_reducible rfl) | (simp; done)) | (with_reducible apply cell_drew) | (with_reducible apply cell_drewN) | (with_reducible apply cell_set) | ((with_reducible apply cell_off); focus (decide)) | ((with_reducible apply cell_beside); focus (first | omega | (simp; done) | (simp; omega))) | ((with_reducible apply cell_under); focus (first | (simp; done) | (simp; omega)))))
    all_goals first | omega | (simp; omega) | (repeat' (first | (with_reducible exact Below.refl _ _) | (with_reducible assumption) | (with_reducible refine below_drewN ?_ _) | (with_reducible refine Below.drew ?_) | ((with_reducible refine Below.alloc ?_ ?_ _); (rotate_left; focus (first | omega | (simp; done) | (simp; omega)))) | ((with_reducible refine Below.setCell ?_ ?_ _); (rotate_left; focus (first | omega | (simp; done) | (simp; omega)))) | (with_reducible refine Below.grown ?_ (by assumption) (by first | omega | (simp; omega)) (by simp [Value.ownBlock]; try omega)) | (with_reducible refine below_then ?_ (Aft.below _)) | (with_reducible apply below_then; rotate_left; assumption)))
theorem refKind_any (g p c t l : Int) (w : World) : Calls Try.prog 25 #[.agg #[.int .i64 g, .int .i64 p, .int .i64 c, .int .i64 t, .int .i64 l]] w fun e w' => e = .returned (.int .i64 (kindZ p c t l)) ∧ Below w.heap.size w w' := by
  go_enter Try.func25, Try.ntmps25
  go_wp2
  all_goals
    go_ret
    refine ⟨ret_int ?_, by (repeat' (first | (with_reducible exact Below.refl _ _) | (with_reducible assumption) | (with_reducible refine below_drewN ?_ _) | (with_reducible refine Below.drew ?_) | ((with_reducible refine Below.alloc ?_ ?_ _); (rotate_left; focus (first | omega | (simp; done) | (simp; omega)))) | ((with_reducible refine Below.setCell ?_ ?_ _); (rotate_left; focus (first | omega | (simp; done) | (simp; omega)))) | (with_reducible refine Below.grown ?_ (by assumption) (by first | omega | (simp; omega)) (by simp [Value.ownBlock]; try omega)) | (with_reducible refine below_then ?_ (Aft.below _)) | (with_reducible apply below_then; rotate_left; assumption)))⟩
    go_light
    unfold kindZ
    simp_all
theorem refUnpack_few (a : Option Addr) (len cap : Nat) (nni : Bool) (w : World) (h : len < 4) (hl : (len : Int) < 4) : Calls Try.prog 21 #[.slice a len cap, .bool nni] w fun e w' => e = .returned (.tuple #[.agg #[.int .i64 0, .int .i64 0, .int .i64 0, .int .i64 0, .int .i64 0], .int .i64 2]) ∧ Below w.heap.size w w' := by
  go_enter Try.func21, Try.ntmps21
  go_wp2
  (try simp only [Exit.inBlock, Exit.then])
  refine bodyPost_ret (results_ct rfl _ _ rfl (v := .agg #[.int .i64 _, .int .i64 _, .int .i64 _, .int .i64 _, .int .i64 _]) ?_) rfl ⟨rfl, by (repeat' (first | (with_reducible exact Below.refl _ _) | (with_reducible assumption) | (with_reducible refine below_drewN ?_ _) | (with_reducible refine Below.drew ?_) | ((with_reducible refine Below.alloc ?_ ?_ _); (rotate_left; focus (first | omega | (simp; done) | (simp; omega)))) | ((with_reducible refine Below.setCell ?_ ?_ _); (rotate_left; focus (first | omega | (simp; done) | (simp; omega)))) | (with_reducible refine Below.grown ?_ (by assumption) (by first | omega | (simp; omega)) (by simp [Value.ownBlock]; try omega)) | (with_reducible refine below_then ?_ (Aft.below _)) | (with_reducible apply below_then; rotate_left; assumption)))⟩
  exact run_loadVar_row _ _ _ _ _ _ _ (blk_new _ _) Try.underlying23 rfl (by kernel_rfl)
theorem refUnpack_many (a : Option Addr) (len cap : Nat) (nni : Bool) (w : World) (h : 4 < len) (hl : ¬ (len : Int) < 4) (hg : 4 < (len : Int)) : Calls Try.prog 21 #[.slice a len cap, .bool nni] w fun e w' => e = .returned (.tuple #[.agg #[.int .i64 0, .int .i64 0, .int .i64 0, .int .i64 0, .int .i64 0], .int .i64 3]) ∧ Below w.heap.size w w' := by
  go_enter Try.func21, Try.ntmps21
  go_wp2
  (try simp only [Exit.inBlock, Exit.then])
  refine bodyPost_ret (results_ct rfl _ _ rfl (v := .agg #[.int .i64 _, .int .i64 _, .int .i64 _, .int .i64 _, .int .i64 _]) ?_) rfl ⟨rfl, by (repeat' (first | (with_reducible exact Below.refl _ _) | (with_reducible assumption) | (with_reducible refine below_drewN ?_ _) | (with_reducible refine Below.drew ?_) | ((with_reducible refine Below.alloc ?_ ?_ _); (rotate_left; focus (first | omega | (simp; done) | (simp; omega)))) | ((with_reducible refine Below.setCell ?_ ?_ _); (rotate_left; focus (first | omega | (simp; done) | (simp; omega)))) | (with_reducible refine Below.grown ?_ (by assumption) (by first | omega | (simp; omega)) (by simp [Value.ownBlock]; try omega)) | (with_reducible refine below_then ?_ (Aft.below _)) | (with_reducible apply below_then; rotate_left; assumption)))⟩
  exact run_loadVar_row _ _ _ _ _ _ _ (blk_new _ _) Try.underlying23 rfl (by kernel_rfl)
theorem refUnpack_false (b off cap : Nat) (x y z u : Int) (w : World) (hlt : b < w.heap.size) (h0 : w.cell? ⟨b, off, none⟩ = some (.int .u8 x)) (h1 : w.cell? ⟨b, off + 1, none⟩ = some (.int .u8 y)) (h2 : w.cell? ⟨b, off + 2, none⟩ = some (.int .u8 z)) (h3 : w.cell? ⟨b, off + 3, none⟩ = some (.int .u8 u))
    (x0 : 0 ≤ x) (x1 : x < 256) (y0 : 0 ≤ y) (y1 : y < 256) (z0 : 0 ≤ z) (z1 : z < 256) (u0 : 0 ≤ u) (u1 : u < 256) :
    Calls Try.prog 21 #[.slice (some ⟨b, off, none⟩) 4 cap, .bool false] w fun e w' =>
      e = .returned (.tuple #[.agg #[.int .i64 ((x * 16777216 + y * 65536 + z * 256 + u) / 1048576 / 256), .int .i64 ((x * 16777216 + y * 65536 + z * 256 + u) / 1048576 % 256), .int .i64 ((x * 16777216 + y * 65536 + z * 256 + u) / 16 % 65536), .int .i64 ((x * 16777216 + y * 65536 + z * 256 + u) / 2 % 8), .int .i64 ((x * 16777216 + y * 65536 + z * 256 + u) % 2)], .int .i64 0]) ∧ Below w.heap.size w w' := by
  go_enter Try.func21, Try.ntmps21
  go_wp2
  go_quiet (fail)
  go_wp2
  (try simp only [Exit.inBlock, Exit.then])
  refine bodyPost_ret (results_ct rfl _ _ rfl (load_header (a := (x * 16777216 + y * 65536 + z * 256 + u) / 1048576 / 256) (b := (x * 16777216 + y * 65536 + z * 256 + u) / 1048576 % 256) (c := (x * 16777216 + y * 65536 + z * 256 + u) / 16 % 65536) (d := (x * 16777216 + y * 65536 + z * 256 + u) / 2 % 8) (e := (x * 16777216 + y * 65536 + z * 256 + u) % 2) ?_ ?_ ?_ ?_ ?_)) rfl ⟨rfl, ?_⟩
  rotate_left 5
  · (repeat' (first | (with_reducible exact Below.refl _ _) | (with_reducible assumption) | (with_reducible refine below_drewN ?_ _) | (with_reducible refine Below.drew ?_) | ((with_reducible refine Below.alloc ?_ ?_ _); (rotate_left; focus (first | omega | (simp; done) | (simp; omega)))) | ((with_reducible refine Below.setCell ?_ ?_ _); (rotate_left; focus (first | omega | (simp; done) | (simp; omega)))) | (with_reducible refine Below.grown ?_ (by assumption) (by first | omega | (simp; omega)) (by simp [Value.ownBlock]; try omega)) | (with_reducible refine below_then ?_ (Aft.below _)) | (with_reducible apply below_then; rotate_left; assumption)))
  all_goals go_light
  all_goals (repeat (first | (with_reducible assumption) | ((with_reducible refine cell_top ?_ rfl); first | (with_reducible rfl) | (simp; done)) | (with_reducible apply cell_drew) | (with_reducible apply cell_drewN) | (with_reducible apply cell_set) | ((with_reducible apply cell_off); focus (decide)) | ((with_reducible apply cell_beside); focus (first | omega | (simp; done) | (simp; omega))) | ((with_reducible apply cell_under); focus (first | (simp; done) | (simp; omega)))))
theorem refUnpack_true (b off cap : Nat) (x y z u : Int) (w : World) (hlt : b < w.heap.size) (h0 : w.cell? ⟨b, off, none⟩ = some (.int .u8 x)) (h1 : w.cell? ⟨b, off + 1, none⟩ = some (.int .u8 y)) (h2 : w.cell? ⟨b, off + 2, none⟩ = some (.int .u8 z)) (h3 : w.cell? ⟨b, off + 3, none⟩ = some (.int .u8 u))
    (x0 : 0 ≤ x) (x1 : x < 256) (y0 : 0 ≤ y) (y1 : y < 256) (z0 : 0 ≤ z) (z1 : z < 256) (u0 : 0 ≤ u) (u1 : u < 256) :
    Calls Try.prog 21 #[.slice (some ⟨b, off, none⟩) 4 cap, .bool true] w fun e w' =>
      e = .returned (.tuple #[.agg #[.int .i64 0, .int .i64 ((x * 16777216 + y * 65536 + z * 256 + u) / 1048576), .int .i64 ((x * 16777216 + y * 65536 + z * 256 + u) / 16 % 65536), .int .i64 ((x * 16777216 + y * 65536 + z * 256 + u) / 2 % 8), .int .i64 ((x * 16777216 + y * 65536 + z * 256 + u) % 2)], .int .i64 0]) ∧ Below w.heap.size w w' := by
  go_enter Try.func21, Try.ntmps21
  go_wp2
  go_quiet (fail)
  go_wp2
  (try simp only [Exit.inBlock, Exit.then])
  refine bodyPost_ret (results_ct rfl _ _ rfl (load_header (a := 0) (b := (x * 16777216 + y * 65536 + z * 256 + u) / 1048576) (c := (x * 16777216 + y * 65536 + z * 256 + u) / 16 % 65536) (d := (x * 16777216 + y * 65536 + z * 256 + u) / 2 % 8) (e := (x * 16777216 + y * 65536 + z * 256 + u) % 2) ?_ ?_ ?_ ?_ ?_)) rfl ⟨rfl, ?_⟩
  rotate_left 5
  · (repeat' (first | (with_reducible exact Below.refl _ _) | (with_reducible assumption) | (with_reducible refine below_drewN ?_ _) | (with_reducible refine Below.drew ?_) | ((with_reducible refine Below.alloc ?_ ?_ _); (rotate_left; focus (first | omega | (simp; done) | (simp; omega)))) | ((with_reducible refine Below.setCell ?_ ?_ _); (rotate_left; focus (first | omega | (simp; done) | (simp; omega)))) | (with_reducible refine Below.grown ?_ (by assumption) (by first | omega | (simp; omega)) (by simp [Value.ownBlock]; try omega)) | (with_reducible refine below_then ?_ (Aft.below _)) | (with_reducible apply below_then; rotate_left; assumption)))
  all_goals go_light
  all_goals (repeat (first | (with_reducible assumption) | ((with_reducible refine cell_top ?_ rfl); first | (with_reducible rfl) | (simp; done)) | (with_reducible apply cell_drew) | (with_reducible apply cell_drewN) | (with_reducible apply cell_set) | ((with_reducible apply cell_off); focus (decide)) | ((with_reducible apply cell_beside); focus (first | omega | (simp; done) | (simp; omega))) | ((with_reducible apply cell_under); focus (first | (simp; done) | (simp; omega)))))
theorem refUnpack_yes (b off cap : Nat) (x y z u : Int) (nni : Bool) (w : World) (hlt : b < w.heap.size) (h0 : w.cell? ⟨b, off, none⟩ = some (.int .u8 x)) (h1 : w.cell? ⟨b, off + 1, none⟩ = some (.int .u8 y)) (h2 : w.cell? ⟨b, off + 2, none⟩ = some (.int .u8 z)) (h3 : w.cell? ⟨b, off + 3, none⟩ = some (.int .u8 u))
    (x0 : 0 ≤ x) (x1 : x < 256) (y0 : 0 ≤ y) (y1 : y < 256) (z0 : 0 ≤ z) (z1 : z < 256) (u0 : 0 ≤ u) (u1 : u < 256) :
    Calls Try.prog 21 #[.slice (some ⟨b, off, none⟩) 4 cap, .bool nni] w fun e w' =>
      e = .returned (.tuple #[.agg #[.int .i64 (gfcW nni (word4 x y z u)), .int .i64 (vpiW nni (word4 x y z u)), .int .i64 (word4 x y z u / 16 % 65536), .int .i64 (word4 x y z u / 2 % 8), .int .i64 (word4 x y z u % 2)], .int .i64 0]) ∧ Below w.heap.size w w' := by
  cases nni
  · have h1 : gfcW false (word4 x y z u) = (x * 16777216 + y * 65536 + z * 256 + u) / 1048576 / 256 := by unfold gfcW word4; simp; omega
    rw [h1]
    exact refUnpack_false b off cap x y z u w hlt h0 (by assumption) h2 h3 x0 x1 y0 y1 z0 z1 u0 u1
  · exact refUnpack_true b off cap x y z u w hlt h0 (by assumption) h2 h3 x0 x1 y0 y1 z0 z1 u0 u1
theorem refRight_h (g p c t l : Int) (nni : Bool) (w : World) : Calls Try.prog 22 #[.agg #[.int .i64 g, .int .i64 p, .int .i64 c, .int .i64 t, .int .i64 l], .bool nni] w fun e w' => e = .returned (.bool (rightH nni g p c t l)) ∧ Below w.heap.size w w' := by
  cases nni
  · go_enter Try.func22, Try.ntmps22
    go_wp2_with (go_at_call 41; refine (fields_any _ _ _ _ _ _ _).mono ?_; rintro e w' ⟨b, d, rfl, hb0, hb1, hd0, hd1, c0, c1, c2, c3, c4, d0, d1, d2, d3, d4, hb⟩)
    refine wp_loop_rounds 6 ?_
    rw [rounds_succ]
    go_wp2
    by_cases hg : g < 0
    · (go_quiet (fail); go_wp2; go_ret; refine ⟨ret_bool ?_, by (repeat' (first | (with_reducible exact Below.refl _ _) | (with_reducible assumption) | (with_reducible refine below_drewN ?_ _) | (with_reducible refine Below.drew ?_) | ((with_reducible refine Below.alloc ?_ ?_ _); (rotate_left; focus (first | omega | (simp; done) | (simp; omega)))) | ((with_reducible refine Below.setCell ?_ ?_ _); (rotate_left; focus (first | omega | (simp; done) | (simp; omega)))) | (with_reducible refine Below.grown ?_ (by assumption) (by first | omega | (simp; omega)) (by simp [Value.ownBlock]; try omega)) | (with_reducible refine below_then ?_ (Aft.below _)) | (with_reducible apply below_then; rotate_left; assumption)))⟩; go_light; unfold rightH; simp; omega)
    have kg : decide (g < 0) = false := by simpa using hg
    by_cases mg : 16 ≤ g
    · (go_quiet (fail); go_wp2; go_ret; refine ⟨ret_bool ?_, by (repeat' (first | (with_reducible exact Below.refl _ _) | (with_reducible assumption) | (with_reducible refine below_drewN ?_ _) | (with_reducible refine Below.drew ?_) | ((with_reducible refine Below.alloc ?_ ?_ _); (rotate_left; focus (first | omega | (simp; done) | (simp; omega)))) | ((with_reducible refine Below.setCell ?_ ?_ _); (rotate_left; focus (first | omega | (simp; done) | (simp; omega)))) | (with_reducible refine Below.grown ?_ (by assumption) (by first | omega | (simp; omega)) (by simp [Value.ownBlock]; try omega)) | (with_reducible refine below_then ?_ (Aft.below _)) | (with_reducible apply below_then; rotate_left; assumption)))⟩; go_light; unfold rightH; simp; omega)
    have ng : decide (16 ≤ g) = false := by simpa using mg
    go_quiet (fail)
    go_wp2
    clear kg ng
    rw [rounds_succ]
    go_wp2
    by_cases hp : p < 0
    · (go_quiet (fail); go_wp2; go_ret; refine ⟨ret_bool ?_, by (repeat' (first | (with_reducible exact Below.refl _ _) | (with_reducible assumption) | (with_reducible refine below_drewN ?_ _) | (with_reducible refine Below.drew ?_) | ((with_reducible refine Below.alloc ?_ ?_ _); (rotate_left; focus (first | omega | (simp; done) | (simp; omega)))) | ((with_reducible refine Below.setCell ?_ ?_ _); (rotate_left; focus (first | omega | (simp; done) | (simp; omega)))) | (with_reducible refine Below.grown ?_ (by assumption) (by first | omega | (simp; omega)) (by simp [Value.ownBlock]; try omega)) | (with_reducible refine below_then ?_ (Aft.below _)) | (with_reducible apply below_then; rotate_left; assumption)))⟩; go_light; unfold rightH; simp; omega)
    have kp : decide (p < 0) = false := by simpa using hp
    by_cases mp : 256 ≤ p
    · (go_quiet (fail); go_wp2; go_ret; refine ⟨ret_bool ?_, by (repeat' (first | (with_reducible exact Below.refl _ _) | (with_reducible assumption) | (with_reducible refine below_drewN ?_ _) | (with_reducible refine Below.drew ?_) | ((with_reducible refine Below.alloc ?_ ?_ _); (rotate_left; focus (first | omega | (simp; done) | (simp; omega)))) | ((with_reducible refine Below.setCell ?_ ?_ _); (rotate_left; focus (first | omega | (simp; done) | (simp; omega)))) | (with_reducible refine Below.grown ?_ (by assumption) (by first | omega | (simp; omega)) (by simp [Value.ownBlock]; try omega)) | (with_reducible refine below_then ?_ (Aft.below _)) | (with_reducible apply below_then; rotate_left; assumption)))⟩; go_light; unfold rightH; simp; omega)
    have np : decide (256 ≤ p) = false := by simpa using mp
    go_quiet (fail)
    go_wp2
    clear kp np
    rw [rounds_succ]
    go_wp2
    by_cases hc : c < 0
    · (go_quiet (fail); go_wp2; go_ret; refine ⟨ret_bool ?_, by (repeat' (first | (with_reducible exact Below.refl _ _) | (with_reducible assumption) | (with_reducible refine below_drewN ?_ _) | (with_reducible refine Below.drew ?_) | ((with_reducible refine Below.alloc ?_ ?_ _); (rotate_left; focus (first | omega | (simp; done) | (simp; omega)))) | ((with_reducible refine Below.setCell ?_ ?_ _); (rotate_left; focus (first | omega | (simp; done) | (simp; omega)))) | (with_reducible refine Below.grown ?_ (by assumption) (by first | omega | (simp; omega)) (by simp [Value.ownBlock]; try omega)) | (with_reducible refine below_then ?_ (Aft.below _)) | (with_reducible apply below_then; rotate_left; assumption)))⟩; go_light; unfold rightH; simp; omega)
    have kc : decide (c < 0) = false := by simpa using hc
    by_cases mc : 65536 ≤ c
    · (go_quiet (fail); go_wp2; go_ret; refine ⟨ret_bool ?_, by (repeat' (first | (with_reducible exact Below.refl _ _) | (with_reducible assumption) | (with_reducible refine below_drewN ?_ _) | (with_reducible refine Below.drew ?_) | ((with_reducible refine Below.alloc ?_ ?_ _); (rotate_left; focus (first | omega | (simp; done) | (simp; omega)))) | ((with_reducible refine Below.setCell ?_ ?_ _); (rotate_left; focus (first | omega | (simp; done) | (simp; omega)))) | (with_reducible refine Below.grown ?_ (by assumption) (by first | omega | (simp; omega)) (by simp [Value.ownBlock]; try omega)) | (with_reducible refine below_then ?_ (Aft.below _)) | (with_reducible apply below_then; rotate_left; assumption)))⟩; go_light; unfold rightH; simp; omega)
    have nc : decide (65536 ≤ c) = false := by simpa using mc
    go_quiet (fail)
    go_wp2
    clear kc nc
    rw [rounds_succ]
    go_wp2
    by_cases ht : t < 0
    · (go_quiet (fail); go_wp2; go_ret; refine ⟨ret_bool ?_, by (repeat' (first | (with_reducible exact Below.refl _ _) | (with_reducible assumption) | (with_reducible refine below_drewN ?_ _) | (with_reducible refine Below.drew ?_) | ((with_reducible refine Below.alloc ?_ ?_ _); (rotate_left; focus (first | omega | (simp; done) | (simp; omega)))) | ((with_reducible refine Below.setCell ?_ ?_ _); (rotate_left; focus (first | omega | (simp; done) | (simp; omega)))) | (with_reducible refine Below.grown ?_ (by assumption) (by first | omega | (simp; omega)) (by simp [Value.ownBlock]; try omega)) | (with_reducible refine below_then ?_ (Aft.below _)) | (with_reducible apply below_then; rotate_left; assumption)))⟩; go_light; unfold rightH; simp; omega)
    have kt : decide (t < 0) = false := by simpa using ht
    by_cases mt : 8 ≤ t
    · (go_quiet (fail); go_wp2; go_ret; refine ⟨ret_bool ?_, by (repeat' (first | (with_reducible exact Below.refl _ _) | (with_reducible assumption) | (with_reducible refine below_drewN ?_ _) | (with_reducible refine Below.drew ?_) | ((with_reducible refine Below.alloc ?_ ?_ _); (rotate_left; focus (first | omega | (simp; done) | (simp; omega)))) | ((with_reducible refine Below.setCell ?_ ?_ _); (rotate_left; focus (first | omega | (simp; done) | (simp; omega)))) | (with_reducible refine Below.grown ?_ (by assumption) (by first | omega | (simp; omega)) (by simp [Value.ownBlock]; try omega)) | (with_reducible refine below_then ?_ (Aft.below _)) | (with_reducible apply below_then; rotate_left; assumption)))⟩; go_light; unfold rightH; simp; omega)
    have nt : decide (8 ≤ t) = false := by simpa using mt
    go_quiet (fail)
    go_wp2
    clear kt nt
    rw [rounds_succ]
    go_wp2
    by_cases hl : l < 0
    · (go_quiet (fail); go_wp2; go_ret; refine ⟨ret_bool ?_, by (repeat' (first | (with_reducible exact Below.refl _ _) | (with_reducible assumption) | (with_reducible refine below_drewN ?_ _) | (with_reducible refine Below.drew ?_) | ((with_reducible refine Below.alloc ?_ ?_ _); (rotate_left; focus (first | omega | (simp; done) | (simp; omega)))) | ((with_reducible refine Below.setCell ?_ ?_ _); (rotate_left; focus (first | omega | (simp; done) | (simp; omega)))) | (with_reducible refine Below.grown ?_ (by assumption) (by first | omega | (simp; omega)) (by simp [Value.ownBlock]; try omega)) | (with_reducible refine below_then ?_ (Aft.below _)) | (with_reducible apply below_then; rotate_left; assumption)))⟩; go_light; unfold rightH; simp; omega)
    have kl : decide (l < 0) = false := by simpa using hl
    by_cases ml : 2 ≤ l
    · (go_quiet (fail); go_wp2; go_ret; refine ⟨ret_bool ?_, by (repeat' (first | (with_reducible exact Below.refl _ _) | (with_reducible assumption) | (with_reducible refine below_drewN ?_ _) | (with_reducible refine Below.drew ?_) | ((with_reducible refine Below.alloc ?_ ?_ _); (rotate_left; focus (first | omega | (simp; done) | (simp; omega)))) | ((with_reducible refine Below.setCell ?_ ?_ _); (rotate_left; focus (first | omega | (simp; done) | (simp; omega)))) | (with_reducible refine Below.grown ?_ (by assumption) (by first | omega | (simp; omega)) (by simp [Value.ownBlock]; try omega)) | (with_reducible refine below_then ?_ (Aft.below _)) | (with_reducible apply below_then; rotate_left; assumption)))⟩; go_light; unfold rightH; simp; omega)
    have nl : decide (2 ≤ l) = false := by simpa using ml
    go_quiet (fail)
    go_wp2
    clear kl nl
    rw [rounds_succ]
    go_wp2
    go_ret
    refine ⟨ret_bool ?_, by (repeat' (first | (with_reducible exact Below.refl _ _) | (with_reducible assumption) | (with_reducible refine below_drewN ?_ _) | (with_reducible refine Below.drew ?_) | ((with_reducible refine Below.alloc ?_ ?_ _); (rotate_left; focus (first | omega | (simp; done) | (simp; omega)))) | ((with_reducible refine Below.setCell ?_ ?_ _); (rotate_left; focus (first | omega | (simp; done) | (simp; omega)))) | (with_reducible refine Below.grown ?_ (by assumption) (by first | omega | (simp; omega)) (by simp [Value.ownBlock]; try omega)) | (with_reducible refine below_then ?_ (Aft.below _)) | (with_reducible apply below_then; rotate_left; assumption)))⟩
    go_light
    unfold rightH
    simp
    omega
  · go_enter Try.func22, Try.ntmps22
    go_wp2_with (go_at_call 41; refine (fields_any _ _ _ _ _ _ _).mono ?_; rintro e w' ⟨b, d, rfl, hb0, hb1, hd0, hd1, c0, c1, c2, c3, c4, d0, d1, d2, d3, d4, hb⟩)
    refine wp_loop_rounds 6 ?_
    rw [rounds_succ]
    go_wp2
    by_cases hg : g < 0
    · (go_quiet (fail); go_wp2; go_ret; refine ⟨ret_bool ?_, by (repeat' (first | (with_reducible exact Below.refl _ _) | (with_reducible assumption) | (with_reducible refine below_drewN ?_ _) | (with_reducible refine Below.drew ?_) | ((with_reducible refine Below.alloc ?_ ?_ _); (rotate_left; focus (first | omega | (simp; done) | (simp; omega)))) | ((with_reducible refine Below.setCell ?_ ?_ _); (rotate_left; focus (first | omega | (simp; done) | (simp; omega)))) | (with_reducible refine Below.grown ?_ (by assumption) (by first | omega | (simp; omega)) (by simp [Value.ownBlock]; try omega)) | (with_reducible refine below_then ?_ (Aft.below _)) | (with_reducible apply below_then; rotate_left; assumption)))⟩; go_light; unfold rightH; simp; omega)
    have kg : decide (g < 0) = false := by simpa using hg
    by_cases mg : 1 ≤ g
    · (go_quiet (fail); go_wp2; go_ret; refine ⟨ret_bool ?_, by (repeat' (first | (with_reducible exact Below.refl _ _) | (with_reducible assumption) | (with_reducible refine below_drewN ?_ _) | (with_reducible refine Below.drew ?_) | ((with_reducible refine Below.alloc ?_ ?_ _); (rotate_left; focus (first | omega | (simp; done) | (simp; omega)))) | ((with_reducible refine Below.setCell ?_ ?_ _); (rotate_left; focus (first | omega | (simp; done) | (simp; omega)))) | (with_reducible refine Below.grown ?_ (by assumption) (by first | omega | (simp; omega)) (by simp [Value.ownBlock]; try omega)) | (with_reducible refine below_then ?_ (Aft.below _)) | (with_reducible apply below_then; rotate_left; assumption)))⟩; go_light; unfold rightH; simp; omega)
    have ng : decide (1 ≤ g) = false := by simpa using mg
    go_quiet (fail)
    go_wp2
    clear kg ng
    rw [rounds_succ]
    go_wp2
    by_cases hp : p < 0
    · (go_quiet (fail); go_wp2; go_ret; refine ⟨ret_bool ?_, by (repeat' (first | (with_reducible exact Below.refl _ _) | (with_reducible assumption) | (with_reducible refine below_drewN ?_ _) | (with_reducible refine Below.drew ?_) | ((with_reducible refine Below.alloc ?_ ?_ _); (rotate_left; focus (first | omega | (simp; done) | (simp; omega)))) | ((with_reducible refine Below.setCell ?_ ?_ _); (rotate_left; focus (first | omega | (simp; done) | (simp; omega)))) | (with_reducible refine Below.grown ?_ (by assumption) (by first | omega | (simp; omega)) (by simp [Value.ownBlock]; try omega)) | (with_reducible refine below_then ?_ (Aft.below _)) | (with_reducible apply below_then; rotate_left; assumption)))⟩; go_light; unfold rightH; simp; omega)
    have kp : decide (p < 0) = false := by simpa using hp
    by_cases mp : 4096 ≤ p
    · (go_quiet (fail); go_wp2; go_ret; refine ⟨ret_bool ?_, by (repeat' (first | (with_reducible exact Below.refl _ _) | (with_reducible assumption) | (with_reducible refine below_drewN ?_ _) | (with_reducible refine Below.drew ?_) | ((with_reducible refine Below.alloc ?_ ?_ _); (rotate_left; focus (first | omega | (simp; done) | (simp; omega)))) | ((with_reducible refine Below.setCell ?_ ?_ _); (rotate_left; focus (first | omega | (simp; done) | (simp; omega)))) | (with_reducible refine Below.grown ?_ (by assumption) (by first | omega | (simp; omega)) (by simp [Value.ownBlock]; try omega)) | (with_reducible refine below_then ?_ (Aft.below _)) | (with_reducible apply below_then; rotate_left; assumption)))⟩; go_light; unfold rightH; simp; omega)
    have np : decide (4096 ≤ p) = false := by simpa using mp
    go_quiet (fail)
    go_wp2
    clear kp np
    rw [rounds_succ]
    go_wp2
    by_cases hc : c < 0
    · (go_quiet (fail); go_wp2; go_ret; refine ⟨ret_bool ?_, by (repeat' (first | (with_reducible exact Below.refl _ _) | (with_reducible assumption) | (with_reducible refine below_drewN ?_ _) | (with_reducible refine Below.drew ?_) | ((with_reducible refine Below.alloc ?_ ?_ _); (rotate_left; focus (first | omega | (simp; done) | (simp; omega)))) | ((with_reducible refine Below.setCell ?_ ?_ _); (rotate_left; focus (first | omega | (simp; done) | (simp; omega)))) | (with_reducible refine Below.grown ?_ (by assumption) (by first | omega | (simp; omega)) (by simp [Value.ownBlock]; try omega)) | (with_reducible refine below_then ?_ (Aft.below _)) | (with_reducible apply below_then; rotate_left; assumption)))⟩; go_light; unfold rightH; simp; omega)
    have kc : decide (c < 0) = false := by simpa using hc
    by_cases mc : 65536 ≤ c
    · (go_quiet (fail); go_wp2; go_ret; refine ⟨ret_bool ?_, by (repeat' (first | (with_reducible exact Below.refl _ _) | (with_reducible assumption) | (with_reducible refine below_drewN ?_ _) | (with_reducible refine Below.drew ?_) | ((with_reducible refine Below.alloc ?_ ?_ _); (rotate_left; focus (first | omega | (simp; done) | (simp; omega)))) | ((with_reducible refine Below.setCell ?_ ?_ _); (rotate_left; focus (first | omega | (simp; done) | (simp; omega)))) | (with_reducible refine Below.grown ?_ (by assumption) (by first | omega | (simp; omega)) (by simp [Value.ownBlock]; try omega)) | (with_reducible refine below_then ?_ (Aft.below _)) | (with_reducible apply below_then; rotate_left; assumption)))⟩; go_light; unfold rightH; simp; omega)
    have nc : decide (65536 ≤ c) = false := by simpa using mc
    go_quiet (fail)
    go_wp2
    clear kc nc
    rw [rounds_succ]
    go_wp2
    by_cases ht : t < 0
    · (go_quiet (fail); go_wp2; go_ret; refine ⟨ret_bool ?_, by (repeat' (first | (with_reducible exact Below.refl _ _) | (with_reducible assumption) | (with_reducible refine below_drewN ?_ _) | (with_reducible refine Below.drew ?_) | ((with_reducible refine Below.alloc ?_ ?_ _); (rotate_left; focus (first | omega | (simp; done) | (simp; omega)))) | ((with_reducible refine Below.setCell ?_ ?_ _); (rotate_left; focus (first | omega | (simp; done) | (simp; omega)))) | (with_reducible refine Below.grown ?_ (by assumption) (by first | omega | (simp; omega)) (by simp [Value.ownBlock]; try omega)) | (with_reducible refine below_then ?_ (Aft.below _)) | (with_reducible apply below_then; rotate_left; assumption)))⟩; go_light; unfold rightH; simp; omega)
    have kt : decide (t < 0) = false := by simpa using ht
    by_cases mt : 8 ≤ t
    · (go_quiet (fail); go_wp2; go_ret; refine ⟨ret_bool ?_, by (repeat' (first | (with_reducible exact Below.refl _ _) | (with_reducible assumption) | (with_reducible refine below_drewN ?_ _) | (with_reducible refine Below.drew ?_) | ((with_reducible refine Below.alloc ?_ ?_ _); (rotate_left; focus (first | omega | (simp; done) | (simp; omega)))) | ((with_reducible refine Below.setCell ?_ ?_ _); (rotate_left; focus (first | omega | (simp; done) | (simp; omega)))) | (with_reducible refine Below.grown ?_ (by assumption) (by first | omega | (simp; omega)) (by simp [Value.ownBlock]; try omega)) | (with_reducible refine below_then ?_ (Aft.below _)) | (with_reducible apply below_then; rotate_left; assumption)))⟩; go_light; unfold rightH; simp; omega)
    have nt : decide (8 ≤ t) = false := by simpa using mt
    go_quiet (fail)
    go_wp2
    clear kt nt
    rw [rounds_succ]
    go_wp2
    by_cases hl : l < 0
    · (go_quiet (fail); go_wp2; go_ret; refine ⟨ret_bool ?_, by (repeat' (first | (with_reducible exact Below.refl _ _) | (with_reducible assumption) | (with_reducible refine below_drewN ?_ _) | (with_reducible refine Below.drew ?_) | ((with_reducible refine Below.alloc ?_ ?_ _); (rotate_left; focus (first | omega | (simp; done) | (simp; omega)))) | ((with_reducible refine Below.setCell ?_ ?_ _); (rotate_left; focus (first | omega | (simp; done) | (simp; omega)))) | (with_reducible refine Below.grown ?_ (by assumption) (by first | omega | (simp; omega)) (by simp [Value.ownBlock]; try omega)) | (with_reducible refine below_then ?_ (Aft.below _)) | (with_reducible apply below_then; rotate_left; assumption)))⟩; go_light; unfold rightH; simp; omega)
    have kl : decide (l < 0) = false := by simpa using hl
    by_cases ml : 2 ≤ l
    · (go_quiet (fail); go_wp2; go_ret; refine ⟨ret_bool ?_, by (repeat' (first | (with_reducible exact Below.refl _ _) | (with_reducible assumption) | (with_reducible refine below_drewN ?_ _) | (with_reducible refine Below.drew ?_) | ((with_reducible refine Below.alloc ?_ ?_ _); (rotate_left; focus (first | omega | (simp; done) | (simp; omega)))) | ((with_reducible refine Below.setCell ?_ ?_ _); (rotate_left; focus (first | omega | (simp; done) | (simp; omega)))) | (with_reducible refine Below.grown ?_ (by assumption) (by first | omega | (simp; omega)) (by simp [Value.ownBlock]; try omega)) | (with_reducible refine below_then ?_ (Aft.below _)) | (with_reducible apply below_then; rotate_left; assumption)))⟩; go_light; unfold rightH; simp; omega)
    have nl : decide (2 ≤ l) = false := by simpa using ml
    go_quiet (fail)
    go_wp2
    clear kl nl
    rw [rounds_succ]
    go_wp2
    go_ret
    refine ⟨ret_bool ?_, by (repeat' (first | (with_reducible exact Below.refl _ _) | (with_reducible assumption) | (with_reducible refine below_drewN ?_ _) | (with_reducible refine Below.drew ?_) | ((with_reducible refine Below.alloc ?_ ?_ _); (rotate_left; focus (first | omega | (simp; done) | (simp; omega)))) | ((with_reducible refine Below.setCell ?_ ?_ _); (rotate_left; focus (first | omega | (simp; done) | (simp; omega)))) | (with_reducible refine Below.grown ?_ (by assumption) (by first | omega | (simp; omega)) (by simp [Value.ownBlock]; try omega)) | (with_reducible refine below_then ?_ (Aft.below _)) | (with_reducible apply below_then; rotate_left; assumption)))⟩
    go_light
    unfold rightH
    simp
    omega
theorem refPack_no (g p c t l : Int) (nni : Bool) (w : World) (hr : rightH nni g p c t l = false) : Calls Try.prog 23 #[.agg #[.int .i64 g, .int .i64 p, .int .i64 c, .int .i64 t, .int .i64 l], .bool nni] w fun e w' => e = .returned (.slice none 0 0) ∧ Below w.heap.size w w' := by
  go_enter Try.func23, Try.ntmps23
  go_wp2_with (go_at_call 22; refine (refRight_h _ _ _ _ _ _ _).mono ?_; rintro e w' ⟨rfl, hb⟩; obtain ⟨hc, hf⟩ := bcell hb; have hz := hb.size; (try simp at hz); (try have hz1 : w.heap.size < w'.heap.size := by omega); (try have hz2 : w.heap.size + 1 < w'.heap.size := by omega))
  go_ret
  exact ⟨rfl, by (repeat' (first | (with_reducible exact Below.refl _ _) | (with_reducible assumption) | (with_reducible refine below_drewN ?_ _) | (with_reducible refine Below.drew ?_) | ((with_reducible refine Below.alloc ?_ ?_ _); (rotate_left; focus (first | omega | (simp; done) | (simp; omega)))) | ((with_reducible refine Below.setCell ?_ ?_ _); (rotate_left; focus (first | omega | (simp; done) | (simp; omega)))) | (with_reducible refine Below.grown ?_ (by assumption) (by first | omega | (simp; omega)) (by simp [Value.ownBlock]; try omega)) | (with_reducible refine below_then ?_ (Aft.below _)) | (with_reducible apply below_then; rotate_left; assumption)))⟩
def Four1 (w w' : World) (n : Int) (e : Ending) : Prop :=
  ∃ b, e = .returned (.slice (some ⟨b, 0, none⟩) 4 4) ∧ w.heap.size ≤ b ∧ b < w'.heap.size ∧
    w'.cell? ⟨b, 0, none⟩ = some (.int .u8 (n / 16777216 % 256)) ∧ w'.cell? ⟨b, 1, none⟩ = some (.int .u8 (n / 65536 % 256)) ∧ w'.cell? ⟨b, 2, none⟩ = some (.int .u8 (n / 256 % 256)) ∧ w'.cell? ⟨b, 3, none⟩ = some (.int .u8 (n % 256)) ∧
    Below w.heap.size w w'
theorem refPack_false (g p c t l : Int) (w : World) (hr : rightH false g p c t l = true) (g0 : 0 ≤ g) (g1 : g < 16) (p0 : 0 ≤ p) (p1 : p < 256) (c0 : 0 ≤ c) (c1 : c < 65536) (t0 : 0 ≤ t) (t1 : t < 8) (l0 : 0 ≤ l) (l1 : l < 2) : Calls Try.prog 23 #[.agg #[.int .i64 g, .int .i64 p, .int .i64 c, .int .i64 t, .int .i64 l], .bool false] w fun e w' => Four1 w w' (wordH false g p c t l) e := by
  go_enter Try.func23, Try.ntmps23
  go_wp2_with (first | (go_at_call 22; refine (refRight_h _ _ _ _ _ _ _).mono ?_; rintro e w' ⟨rfl, hb⟩; obtain ⟨hc, hf⟩ := bcell hb; have hz := hb.size; (try simp at hz); (try have hz1 : w.heap.size < w'.heap.size := by omega); (try have hz2 : w.heap.size + 1 < w'.heap.size := by omega)) | (go_at_call 41; refine (fields_any _ _ _ _ _ _ _).mono ?_; rintro e w' ⟨b, d, rfl, hb0, hb1, hd0, hd1, v0, v1, v2, v3, v4, d0, d1, d2, d3, d4, hb⟩))
  refine wp_loop_rounds 6 ?_
  rw [rounds_succ]
  go_wp2
  go_quiet (fail)
  go_wp2
  rw [rounds_succ]
  go_wp2
  go_quiet (fail)
  go_wp2
  rw [rounds_succ]
  go_wp2
  go_quiet (fail)
  go_wp2
  rw [rounds_succ]
  go_wp2
  go_quiet (fail)
  go_wp2
  rw [rounds_succ]
  go_wp2
  go_quiet (fail)
  go_wp2
  rw [rounds_succ]
  go_wp2
  go_ret
  go_light
  refine ⟨_, rfl, by omega, by simp, cell_top (by simp) (congrArg (fun z => some (Value.int .u8 z)) ?_), cell_top (by simp) (congrArg (fun z => some (Value.int .u8 z)) ?_), cell_top (by simp) (congrArg (fun z => some (Value.int .u8 z)) ?_), cell_top (by simp) (congrArg (fun z => some (Value.int .u8 z)) ?_), by (repeat' (first | (with_reducible exact Below.refl _ _) | (with_reducible assumption) | (with_reducible refine below_drewN ?_ _) | (with_reducible refine Below.drew ?_) | ((with_reducible refine Below.alloc ?_ ?_ _); (rotate_left; focus (first | omega | (simp; done) | (simp; omega)))) | ((with_reducible refine Below.setCell ?_ ?_ _); (rotate_left; focus (first | omega | (simp; done) | (simp; omega)))) | (with_reducible refine Below.grown ?_ (by assumption) (by first | omega | (simp; omega)) (by simp [Value.ownBlock]; try omega)) | (with_reducible refine below_then ?_ (Aft.below _)) | (with_reducible apply below_then; rotate_left; assumption)))⟩
  all_goals (unfold wordH; simp; try omega)
theorem refPack_true (g p c t l : Int) (w : World) (hr : rightH true g p c t l = true) (g0 : 0 ≤ g) (g1 : g < 1) (p0 : 0 ≤ p) (p1 : p < 4096) (c0 : 0 ≤ c) (c1 : c < 65536) (t0 : 0 ≤ t) (t1 : t < 8) (l0 : 0 ≤ l) (l1 : l < 2) : Calls Try.prog 23 #[.agg #[.int .i64 g, .int .i64 p, .int .i64 c, .int .i64 t, .int .i64 l], .bool true] w fun e w' => Four1 w w' (wordH true g p c t l) e := by
  go_enter Try.func23, Try.ntmps23
  go_wp2_with (first | (go_at_call 22; refine (refRight_h _ _ _ _ _ _ _).mono ?_; rintro e w' ⟨rfl, hb⟩; obtain ⟨hc, hf⟩ := bcell hb; have hz := hb.size; (try simp at hz); (try have hz1 : w.heap.size < w'.heap.size := by omega); (try have hz2 : w.heap.size + 1 < w'.heap.size := by omega)) | (go_at_call 41; refine (fields_any _ _ _ _ _ _ _).mono ?_; rintro e w' ⟨b, d, rfl, hb0, hb1, hd0, hd1, v0, v1, v2, v3, v4, d0, d1, d2, d3, d4, hb⟩))
  refine wp_loop_rounds 6 ?_
  rw [rounds_succ]
  go_wp2
  go_quiet (fail)
  go_wp2
  rw [rounds_succ]
  go_wp2
  go_quiet (fail)
  go_wp2
  rw [rounds_succ]
  go_wp2
  go_quiet (fail)
  go_wp2
  rw [rounds_succ]
  go_wp2
  go_quiet (fail)
  go_wp2
  rw [rounds_succ]
  go_wp2
  go_quiet (fail)
  go_wp2
  rw [rounds_succ]
  go_wp2
  go_ret
  go_light
  refine ⟨_, rfl, by omega, by simp, cell_top (by simp) (congrArg (fun z => some (Value.int .u8 z)) ?_), cell_top (by simp) (congrArg (fun z => some (Value.int .u8 z)) ?_), cell_top (by simp) (congrArg (fun z => some (Value.int .u8 z)) ?_), cell_top (by simp) (congrArg (fun z => some (Value.int .u8 z)) ?_), by (repeat' (first | (with_reducible exact Below.refl _ _) | (with_reducible assumption) | (with_reducible refine below_drewN ?_ _) | (with_reducible refine Below.drew ?_) | ((with_reducible refine Below.alloc ?_ ?_ _); (rotate_left; focus (first | omega | (simp; done) | (simp; omega)))) | ((with_reducible refine Below.setCell ?_ ?_ _); (rotate_left; focus (first | omega | (simp; done) | (simp; omega)))) | (with_reducible refine Below.grown ?_ (by assumption) (by first | omega | (simp; omega)) (by simp [Value.ownBlock]; try omega)) | (with_reducible refine below_then ?_ (Aft.below _)) | (with_reducible apply below_then; rotate_left; assumption)))⟩
  all_goals (unfold wordH; simp; try omega)
theorem refPack_yes (g p c t l : Int) (nni : Bool) (w : World) (hr : rightH nni g p c t l = true) : Calls Try.prog 23 #[.agg #[.int .i64 g, .int .i64 p, .int .i64 c, .int .i64 t, .int .i64 l], .bool nni] w fun e w' => Four1 w w' (wordH nni g p c t l) e := by
  have hb := hr
  unfold rightH at hb
  simp only [decide_eq_true_eq] at hb
  cases nni
  · simp at hb
    exact refPack_false g p c t l w hr (by omega) (by omega) (by omega) (by omega) (by omega) (by omega) (by omega) (by omega) (by omega) (by omega)
  · simp at hb
    exact refPack_true g p c t l w hr (by omega) (by omega) (by omega) (by omega) (by omega) (by omega) (by omega) (by omega) (by omega) (by omega)
end Go.Proofs.Ytdlghiekcgplaaa
