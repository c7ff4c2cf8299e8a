/- The walk of the layer 'header': Pack. -/
import Derived.Test.YtdlghiekcgplaaaHeadW
import Derived.KernelRfl
import Derived.Deep.OwnRows
import Derived.OwnWalk
namespace Go.Proofs.Ytdlghiekcgplaaa
set_option linter.unusedVariables false
set_option linter.unusedSimpArgs false
open Go.RowKit
set_option maxRecDepth 100000
set_option maxHeartbeats 4000000
attribute [local irreducible] rightH
theorem byteInfo : (Try.prog.info? 5).map (fun i => (i.zero, i.size, i.bytes)) = some (some (.int .u8 0), 1, 1) := by kernel_rfl
theorem i64_or_nat (a b : Nat) (ha : a < 9223372036854775808) (hb : b < 9223372036854775808) : bits .or .i64 (a : Int) (b : Int) = ((a ||| b : Nat) : Int) := by
  have hor : a ||| b < 2 ^ 63 := Nat.or_lt_two_pow (by omega) (by omega)
  have h1 : (BitVec.ofInt 64 (a : Int)).toNat = a := by simp; omega
  have h2 : (BitVec.ofInt 64 (b : Int)).toNat = b := by simp; omega
  show IntKind.i64.wrap ((BitVec.ofInt 64 (a : Int) ||| BitVec.ofInt 64 (b : Int)).toNat : Int) = _
  rw [BitVec.toNat_or, h1, h2]
  simp [IntKind.bits, IntKind.wrap, IntKind.signed]
  omega
theorem or_plus (k : Nat) (a b : Int) (h0 : 0 ≤ a) (h1 : a * 2 ^ k < 9223372036854775808) (h2 : 0 ≤ b) (h3 : b < 2 ^ k) (h4 : b < 9223372036854775808) : bits .or .i64 (a * 2 ^ k) b = a * 2 ^ k + b := by
  obtain ⟨m, rfl⟩ := Int.eq_ofNat_of_zero_le h0
  obtain ⟨n, rfl⟩ := Int.eq_ofNat_of_zero_le h2
  have e : (m : Int) * 2 ^ k = ((2 ^ k * m : Nat) : Int) := by push_cast; rw [Int.mul_comm]
  have h3' : n < 2 ^ k := by exact_mod_cast h3
  rw [e] at h1 ⊢
  rw [i64_or_nat _ _ (by omega) (by omega), ← Nat.two_pow_add_eq_or_of_lt h3']
  push_cast; rfl
theorem wrap64_id (x : Int) (h0 : 0 ≤ x) (h1 : x < 9223372036854775808) : wrap64 x = x := by unfold wrap64; omega
/-- the header's number. -/
def wordH (nni : Bool) (g p c t l : Int) : Int := (((g * (if nni then 4096 else 256) + p) * 65536 + c) * 8 + t) * 2 + l
theorem pack_no (g p c t l : Int) (nni : Bool) (w : World) (hr : rightH nni g p c t l = false) : Calls Try.prog 18 #[.agg #[.int .i64 g, .int .i64 p, .int .i64 c, .int .i64 t, .int .i64 l], .bool nni] w fun e w' => e = .returned (.tuple #[.slice none 0 0, .int .i64 1]) ∧ Below w.heap.size w w' := by
  go_enter Try.func18, Try.ntmps18
  go_wp2_with (go_at_call 24; refine (right_h _ _ _ _ _ _ _).mono ?_; rintro e w' ⟨rfl, hb⟩; obtain ⟨hc, hf⟩ := bcell hb; have hz := hb.size; (try simp at hz); (try have hz1 : w.heap.size < w'.heap.size := by omega); (try have hz2 : w.heap.size + 1 < w'.heap.size := by omega))
  go_ret2
  exact ⟨rfl, by (repeat' (first | exact Below.refl _ _ | assumption | (refine Below.grown ?_ (by assumption) (by first | omega | (simp; omega)) (by simp [Value.ownBlock]; try omega)) | (refine below_drewN ?_ _) | (refine Below.drew ?_) | (refine Below.alloc ?_ (by first | omega | (simp; done) | (simp; omega)) _) | (refine Below.setCell ?_ (by first | omega | (simp; done) | (simp; omega)) _) | (refine below_then ?_ (Aft.below _)) | (apply below_then; rotate_left; assumption)))⟩
/-- four bytes of a number, in memory that the call made. -/
def Four (w w' : World) (n : Int) (e : Ending) : Prop :=
  ∃ b, e = .returned (.tuple #[.slice (some ⟨b, 0, none⟩) 4 4, .int .i64 0]) ∧ w.heap.size ≤ b ∧ b < w'.heap.size ∧
    w'.cell? ⟨b, 0, none⟩ = some (.int .u8 (n / 16777216 % 256)) ∧ w'.cell? ⟨b, 1, none⟩ = some (.int .u8 (n / 65536 % 256)) ∧ w'.cell? ⟨b, 2, none⟩ = some (.int .u8 (n / 256 % 256)) ∧ w'.cell? ⟨b, 3, none⟩ = some (.int .u8 (n % 256)) ∧
    Below w.heap.size w w'
theorem pack_false (g p c t l m1 n1 m2 n2 m3 n3 m4 n4 : Int) (w : World) (hr : rightH false g p c t l = true) (f0 : bits .or .i64 0 g = g) (e1 : wrap64 (g * 256) = m1) (f1 : bits .or .i64 m1 p = n1) (e2 : wrap64 (n1 * 65536) = m2) (f2 : bits .or .i64 m2 c = n2)
    (e3 : wrap64 (n2 * 8) = m3) (f3 : bits .or .i64 m3 t = n3) (e4 : wrap64 (n3 * 2) = m4) (f4 : bits .or .i64 m4 l = n4) : Calls Try.prog 18 #[.agg #[.int .i64 g, .int .i64 p, .int .i64 c, .int .i64 t, .int .i64 l], .bool false] w fun e w' => Four w w' n4 e := by
  have i0 : ∀ w, (Instr.index 77 (.agg #[.int .i64 g, .int .i64 p, .int .i64 c, .int .i64 t, .int .i64 l]) (.int .i64 0)).run Try.prog w = .ok (.int .i64 g) w := fun _ => by kernel_rfl
  have i1 : ∀ w, (Instr.index 77 (.agg #[.int .i64 g, .int .i64 p, .int .i64 c, .int .i64 t, .int .i64 l]) (.int .i64 1)).run Try.prog w = .ok (.int .i64 p) w := fun _ => by kernel_rfl
  have i2 : ∀ w, (Instr.index 77 (.agg #[.int .i64 g, .int .i64 p, .int .i64 c, .int .i64 t, .int .i64 l]) (.int .i64 2)).run Try.prog w = .ok (.int .i64 c) w := fun _ => by kernel_rfl
  have i3 : ∀ w, (Instr.index 77 (.agg #[.int .i64 g, .int .i64 p, .int .i64 c, .int .i64 t, .int .i64 l]) (.int .i64 3)).run Try.prog w = .ok (.int .i64 t) w := fun _ => by kernel_rfl
  have i4 : ∀ w, (Instr.index 77 (.agg #[.int .i64 g, .int .i64 p, .int .i64 c, .int .i64 t, .int .i64 l]) (.int .i64 4)).run Try.prog w = .ok (.int .i64 l) w := fun _ => by kernel_rfl
  obtain ⟨inf, hin, hi0, hi1, hi2⟩ := info_parts byteInfo
  have hmc : madeCells #[Value.int .u8 0] 4 = #[.int .u8 0, .int .u8 0, .int .u8 0, .int .u8 0] := by kernel_rfl
  go_enter Try.func18, Try.ntmps18
  go_wp2_with (first | (go_at_call 24; refine (right_h _ _ _ _ _ _ _).mono ?_; rintro e w' ⟨rfl, hb⟩; obtain ⟨hc, hf⟩ := bcell hb; have hz := hb.size; (try simp at hz); (try have hz1 : w.heap.size < w'.heap.size := by omega); (try have hz2 : w.heap.size + 1 < w'.heap.size := by omega)) | (go_at_call 40; refine (sizes_any _ _).mono ?_; rintro e w' ⟨rfl, hb⟩; obtain ⟨hc, hf⟩ := bcell hb; have hz := hb.size; (try simp at hz); (try have hz1 : w.heap.size < w'.heap.size := by omega); (try have hz2 : w.heap.size + 1 < w'.heap.size := by omega)))
  refine wp_loop_rounds 6 ?_
  rw [rounds_succ]
  go_wp2
  rw [rounds_succ]
  go_wp2
  rw [rounds_succ]
  go_wp2
  rw [rounds_succ]
  go_wp2
  rw [rounds_succ]
  go_wp2
  rw [rounds_succ]
  go_wp2_with (at_make; refine wpList_make_row _ rfl _ _ _ rfl 5 inf _ Try.underlying27 hin hi0 hi1 rfl .i64 .i64 4 rfl rfl (by rw [hi2]; omega) (by omega) ?_; rw [hmc])
  refine wp_loop_rounds 5 ?_
  rw [rounds_succ]
  go_wp2
  rw [rounds_succ]
  go_wp2
  rw [rounds_succ]
  go_wp2
  rw [rounds_succ]
  go_wp2
  rw [rounds_succ]
  go_wp2
  go_ret2
  refine ⟨_, rfl, by omega, by simp, cells_made_at _ (by unfold maxLen; simp) (by simp) 0 _ rfl, cells_made_at _ (by unfold maxLen; simp) (by simp) 1 _ rfl, cells_made_at _ (by unfold maxLen; simp) (by simp) 2 _ rfl, cells_made_at _ (by unfold maxLen; simp) (by simp) 3 _ rfl, by (repeat' (first | exact Below.refl _ _ | assumption | (refine Below.grown ?_ (by assumption) (by first | omega | (simp; omega)) (by simp [Value.ownBlock]; try omega)) | (refine below_drewN ?_ _) | (refine Below.drew ?_) | (refine Below.alloc ?_ (by first | omega | (simp; done) | (simp; omega)) _) | (refine Below.setCell ?_ (by first | omega | (simp; done) | (simp; omega)) _) | (refine below_then ?_ (Aft.below _)) | (apply below_then; rotate_left; assumption)))⟩
theorem pack_true (g p c t l m1 n1 m2 n2 m3 n3 m4 n4 : Int) (w : World) (hr : rightH true g p c t l = true) (f0 : bits .or .i64 0 g = g) (e1 : wrap64 (g * 4096) = m1) (f1 : bits .or .i64 m1 p = n1) (e2 : wrap64 (n1 * 65536) = m2) (f2 : bits .or .i64 m2 c = n2)
    (e3 : wrap64 (n2 * 8) = m3) (f3 : bits .or .i64 m3 t = n3) (e4 : wrap64 (n3 * 2) = m4) (f4 : bits .or .i64 m4 l = n4) : Calls Try.prog 18 #[.agg #[.int .i64 g, .int .i64 p, .int .i64 c, .int .i64 t, .int .i64 l], .bool true] w fun e w' => Four w w' n4 e := by
  have i0 : ∀ w, (Instr.index 77 (.agg #[.int .i64 g, .int .i64 p, .int .i64 c, .int .i64 t, .int .i64 l]) (.int .i64 0)).run Try.prog w = .ok (.int .i64 g) w := fun _ => by kernel_rfl
  have i1 : ∀ w, (Instr.index 77 (.agg #[.int .i64 g, .int .i64 p, .int .i64 c, .int .i64 t, .int .i64 l]) (.int .i64 1)).run Try.prog w = .ok (.int .i64 p) w := fun _ => by kernel_rfl
  have i2 : ∀ w, (Instr.index 77 (.agg #[.int .i64 g, .int .i64 p, .int .i64 c, .int .i64 t, .int .i64 l]) (.int .i64 2)).run Try.prog w = .ok (.int .i64 c) w := fun _ => by kernel_rfl
  have i3 : ∀ w, (Instr.index 77 (.agg #[.int .i64 g, .int .i64 p, .int .i64 c, .int .i64 t, .int .i64 l]) (.int .i64 3)).run Try.prog w = .ok (.int .i64 t) w := fun _ => by kernel_rfl
  have i4 : ∀ w, (Instr.index 77 (.agg #[.int .i64 g, .int .i64 p, .int .i64 c, .int .i64 t, .int .i64 l]) (.int .i64 4)).run Try.prog w = .ok (.int .i64 l) w := fun _ => by kernel_rfl
  obtain ⟨inf, hin, hi0, hi1, hi2⟩ := info_parts byteInfo
  have hmc : madeCells #[Value.int .u8 0] 4 = #[.int .u8 0, .int .u8 0, .int .u8 0, .int .u8 0] := by kernel_rfl
  go_enter Try.func18, Try.ntmps18
  go_wp2_with (first | (go_at_call 24; refine (right_h _ _ _ _ _ _ _).mono ?_; rintro e w' ⟨rfl, hb⟩; obtain ⟨hc, hf⟩ := bcell hb; have hz := hb.size; (try simp at hz); (try have hz1 : w.heap.size < w'.heap.size := by omega); (try have hz2 : w.heap.size + 1 < w'.heap.size := by omega)) | (go_at_call 40; refine (sizes_any _ _).mono ?_; rintro e w' ⟨rfl, hb⟩; obtain ⟨hc, hf⟩ := bcell hb; have hz := hb.size; (try simp at hz); (try have hz1 : w.heap.size < w'.heap.size := by omega); (try have hz2 : w.heap.size + 1 < w'.heap.size := by omega)))
  refine wp_loop_rounds 6 ?_
  rw [rounds_succ]
  go_wp2
  rw [rounds_succ]
  go_wp2
  rw [rounds_succ]
  go_wp2
  rw [rounds_succ]
  go_wp2
  rw [rounds_succ]
  go_wp2
  rw [rounds_succ]
  go_wp2_with (at_make; refine wpList_make_row _ rfl _ _ _ rfl 5 inf _ Try.underlying27 hin hi0 hi1 rfl .i64 .i64 4 rfl rfl (by rw [hi2]; omega) (by omega) ?_; rw [hmc])
  refine wp_loop_rounds 5 ?_
  rw [rounds_succ]
  go_wp2
  rw [rounds_succ]
  go_wp2
  rw [rounds_succ]
  go_wp2
  rw [rounds_succ]
  go_wp2
  rw [rounds_succ]
  go_wp2
  go_ret2
  refine ⟨_, rfl, by omega, by simp, cells_made_at _ (by unfold maxLen; simp) (by simp) 0 _ rfl, cells_made_at _ (by unfold maxLen; simp) (by simp) 1 _ rfl, cells_made_at _ (by unfold maxLen; simp) (by simp) 2 _ rfl, cells_made_at _ (by unfold maxLen; simp) (by simp) 3 _ rfl, by (repeat' (first | exact Below.refl _ _ | assumption | (refine Below.grown ?_ (by assumption) (by first | omega | (simp; omega)) (by simp [Value.ownBlock]; try omega)) | (refine below_drewN ?_ _) | (refine Below.drew ?_) | (refine Below.alloc ?_ (by first | omega | (simp; done) | (simp; omega)) _) | (refine Below.setCell ?_ (by first | omega | (simp; done) | (simp; omega)) _) | (refine below_then ?_ (Aft.below _)) | (apply below_then; rotate_left; assumption)))⟩
theorem pack_yes (g p c t l : Int) (nni : Bool) (w : World) (hr : rightH nni g p c t l = true) : Calls Try.prog 18 #[.agg #[.int .i64 g, .int .i64 p, .int .i64 c, .int .i64 t, .int .i64 l], .bool nni] w fun e w' => Four w w' (wordH nni g p c t l) e := by
  have hb := hr
  unfold rightH at hb
  simp only [decide_eq_true_eq] at hb
  cases nni
  · simp at hb
    have f0 : bits .or .i64 0 g = g := by have := or_plus 8 0 g (by omega) (by omega) (by omega) (by omega) (by omega); simpa using this
    refine pack_false g p c t l (g * 256) (g * 256 + p) ((g * 256 + p) * 65536) ((g * 256 + p) * 65536 + c) (((g * 256 + p) * 65536 + c) * 8) (((g * 256 + p) * 65536 + c) * 8 + t) ((((g * 256 + p) * 65536 + c) * 8 + t) * 2) _ w hr f0 (wrap64_id _ (by omega) (by omega)) (or_plus 8 _ _ (by omega) (by omega) (by omega) (by omega) (by omega)) (wrap64_id _ (by omega) (by omega)) (or_plus 16 _ _ (by omega) (by omega) (by omega) (by omega) (by omega)) (wrap64_id _ (by omega) (by omega)) (or_plus 3 _ _ (by omega) (by omega) (by omega) (by omega) (by omega)) (wrap64_id _ (by omega) (by omega)) (or_plus 1 _ _ (by omega) (by omega) (by omega) (by omega) (by omega))
  · simp at hb
    have f0 : bits .or .i64 0 g = g := by have := or_plus 8 0 g (by omega) (by omega) (by omega) (by omega) (by omega); simpa using this
    refine pack_true g p c t l (g * 4096) (g * 4096 + p) ((g * 4096 + p) * 65536) ((g * 4096 + p) * 65536 + c) (((g * 4096 + p) * 65536 + c) * 8) (((g * 4096 + p) * 65536 + c) * 8 + t) ((((g * 4096 + p) * 65536 + c) * 8 + t) * 2) _ w hr f0 (wrap64_id _ (by omega) (by omega)) (or_plus 12 _ _ (by omega) (by omega) (by omega) (by omega) (by omega)) (wrap64_id _ (by omega) (by omega)) (or_plus 16 _ _ (by omega) (by omega) (by omega) (by omega) (by omega)) (wrap64_id _ (by omega) (by omega)) (or_plus 3 _ _ (by omega) (by omega) (by omega) (by omega) (by omega)) (wrap64_id _ (by omega) (by omega)) (or_plus 1 _ _ (by omega) (by omega) (by omega) (by omega) (by omega))
/-- two slices of four bytes that are the same. -/
theorem same4 (b b' cap cap' : Nat) (x y z u : Int) (w : World) (h0 : w.cell? ⟨b, 0, none⟩ = some (.int .u8 x)) (h1 : w.cell? ⟨b, 1, none⟩ = some (.int .u8 y)) (h2 : w.cell? ⟨b, 2, none⟩ = some (.int .u8 z)) (h3 : w.cell? ⟨b, 3, none⟩ = some (.int .u8 u))
    (g0 : w.cell? ⟨b', 0, none⟩ = some (.int .u8 x)) (g1 : w.cell? ⟨b', 1, none⟩ = some (.int .u8 y)) (g2 : w.cell? ⟨b', 2, none⟩ = some (.int .u8 z)) (g3 : w.cell? ⟨b', 3, none⟩ = some (.int .u8 u)) :
    Calls Try.prog 19 #[.slice (some ⟨b, 0, none⟩) 4 cap, .slice (some ⟨b', 0, none⟩) 4 cap'] w fun e w' => e = .returned (.bool true) ∧ Below w.heap.size w w' := by
  go_enter Try.func19, Try.ntmps19
  go_wp2
  refine wp_loop_rounds 5 ?_
  rw [rounds_succ]
  go_wp2
  go_quiet (fail)
  go_wp2
  rw [rounds_succ]
  go_wp2
  go_quiet (fail)
  go_wp2
  rw [rounds_succ]
  go_wp2
  go_quiet (fail)
  go_wp2
  rw [rounds_succ]
  go_wp2
  go_quiet (fail)
  go_wp2
  rw [rounds_succ]
  go_wp2
  go_ret
  exact ⟨rfl, by (repeat' (first | exact Below.refl _ _ | assumption | (refine Below.grown ?_ (by assumption) (by first | omega | (simp; omega)) (by simp [Value.ownBlock]; try omega)) | (refine below_drewN ?_ _) | (refine Below.drew ?_) | (refine Below.alloc ?_ (by first | omega | (simp; done) | (simp; omega)) _) | (refine Below.setCell ?_ (by first | omega | (simp; done) | (simp; omega)) _) | (refine below_then ?_ (Aft.below _)) | (apply below_then; rotate_left; assumption)))⟩
end Go.Proofs.Ytdlghiekcgplaaa
