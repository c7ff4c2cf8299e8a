import Derived.KernelRfl
import Derived.Deep.OwnRows
import Derived.OwnWalk
import Derived.OpenShut
import Derived.BigCall
import Derived.Test.YtaoagbnhomjkpaaGreatZTopRates00
import Derived.Test.YtaoagbnhomjkpaaGreatZTopRates04
/- The walk of the layer 'header': Pack. -/
namespace Go.Proofs.YtaoagbnhomjkpaaGreat
set_option linter.unusedVariables false
set_option linter.unusedSimpArgs false
open Go.RowKit
set_option maxRecDepth 100000
set_option maxHeartbeats 4000000
attribute [local irreducible] rightH
theorem byteInfo : (Tryz.prog.info? 5).map (fun i => (i.zero, i.size, i.bytes)) = some (some (.int .u8 0), 1, 1) := by kernel_rfl
theorem i64_or_nat (a b : Nat) (ha : a < 9223372036854775808) (hb : b < 9223372036854775808) : bits .or .i64 (a : Int) (b : Int) = ((a ||| b : Nat) : Int) := by
  have hor : a ||| b < 2 ^ 63 := Nat.or_lt_two_pow (by omega) (by omega)
  have h1 : (BitVec.ofInt 64 (a : Int)).toNat = a := by simp; omega
  have h2 : (BitVec.ofInt 64 (b : Int)).toNat = b := by simp; omega
  show IntKind.i64.wrap ((BitVec.ofInt 64 (a : Int) ||| BitVec.ofInt 64 (b : Int)).toNat : Int) = _
  rw [BitVec.toNat_or, h1, h2]
  simp [IntKind.bits, IntKind.wrap, IntKind.signed]
  omega
theorem or_plus (k : Nat) (a b : Int) (h0 : 0 ≤ a) (h1 : a * 2 ^ k < 9223372036854775808) (h2 : 0 ≤ b) (h3 : b < 2 ^ k) (h4 : b < 9223372036854775808) : bits .or .i64 (a * 2 ^ k) b = a * 2 ^ k + b := by
  obtain ⟨m, rfl⟩ := Int.eq_ofNat_of_zero_le h0
  obtain ⟨n, rfl⟩ := Int.eq_ofNat_of_zero_le h2
  have e : (m : Int) * 2 ^ k = ((2 ^ k * m : Nat) : Int) := by push_cast; rw [Int.mul_comm]
  have h3' : n < 2 ^ k := by exact_mod_cast h3
  rw [e] at h1 ⊢
  rw [i64_or_nat _ _ (by omega) (by omega), ← Nat.two_pow_add_eq_or_of_lt h3']
  push_cast; rfl
theorem wrap64_id (x : Int) (h0 : 0 ≤ x) (h1 : x < 9223372036854775808) : wrap64 x = x := by unfold wrap64; omega
/-- the header's number. -/
def wordH (nni : Bool) (g p c t l : Int) : Int := (((g * (if nni then 4096 else 256) + p) * 65536 + c) * 8 + t) * 2 + l
theorem pack_no (g p c t l : Int) (nni : Bool) (w : World) (hr : rightH nni g p c t l = false) : Calls Tryz.prog 57 #[.agg #[.int .i64 g, .int .i64 p, .int .i64 c, .int .i64 t, .int .i64 l], .bool nni] w fun e w' => e = .returned (.tuple #[.slice none 0 0, .int .i64 1]) ∧ Below w.heap.size w w' := by
  go_enter Tryz.func57, Tryz.ntmps57
  go_wp2_with (go_at_call 79; refine (right_h _ _ _ _ _ _ _).mono ?_; rintro e w' ⟨rfl, hb⟩; obtain ⟨hc, hf⟩ := bcell hb; have hz := hb.size; (try simp at hz); (try have hz1 : w.heap.size < w'.heap.size := by omega); (try have hz2 : w.heap.size + 1 < w'.heap.size := by omega))
  go_ret2
  exact ⟨rfl, by (repeat' (first | exact Below.refl _ _ | assumption | (refine Below.grown ?_ (by assumption) (by first | omega | (simp; omega)) (by simp [Value.ownBlock]; try omega)) | (refine below_drewN ?_ _) | (refine Below.drew ?_) | (refine Below.alloc ?_ (by first | omega | (simp; done) | (simp; omega)) _) | (refine Below.setCell ?_ (by first | omega | (simp; done) | (simp; omega)) _) | (refine below_then ?_ (Aft.below _)) | (apply below_then; rotate_left; assumption)))⟩
/-- four bytes of a number, in memory that the call made. -/
def Four (w w' : World) (n : Int) (e : Ending) : Prop :=
  ∃ b, e = .returned (.tuple #[.slice (some ⟨b, 0, none⟩) 4 4, .int .i64 0]) ∧ w.heap.size ≤ b ∧ b < w'.heap.size ∧
    w'.cell? ⟨b, 0, none⟩ = some (.int .u8 (n / 16777216 % 256)) ∧ w'.cell? ⟨b, 1, none⟩ = some (.int .u8 (n / 65536 % 256)) ∧ w'.cell? ⟨b, 2, none⟩ = some (.int .u8 (n / 256 % 256)) ∧ w'.cell? ⟨b, 3, none⟩ = some (.int .u8 (n % 256)) ∧
    Below w.heap.size w w'
theorem pack_false (g p c t l m1 n1 m2 n2 m3 n3 m4 n4 : Int) (w : World) (hr : rightH false g p c t l = true) (f0 : bits .or .i64 0 g = g) (e1 : wrap64 (g * 256) = m1) (f1 : bits .or .i64 m1 p = n1) (e2 : wrap64 (n1 * 65536) = m2) (f2 : bits .or .i64 m2 c = n2)
    (e3 : wrap64 (n2 * 8) = m3) (f3 : bits .or .i64 m3 t = n3) (e4 : wrap64 (n3 * 2) = m4) (f4 : bits .or .i64 m4 l = n4) : Calls Tryz.prog 57 #[.agg #[.int .i64 g, .int .i64 p, .int .i64 c, .int .i64 t, .int .i64 l], .bool false] w fun e w' => Four w w' n4 e := by
  have i0 : ∀ w, (Instr.index 185 (.agg #[.int .i64 g, .int .i64 p, .int .i64 c, .int .i64 t, .int .i64 l]) (.int .i64 0)).run Tryz.prog w = .ok (.int .i64 g) w := fun _ => by kernel_rfl
  have i1 : ∀ w, (Instr.index 185 (.agg #[.int .i64 g, .int .i64 p, .int .i64 c, .int .i64 t, .int .i64 l]) (.int .i64 1)).run Tryz.prog w = .ok (.int .i64 p) w := fun _ => by kernel_rfl
  have i2 : ∀ w, (Instr.index 185 (.agg #[.int .i64 g, .int .i64 p, .int .i64 c, .int .i64 t, .int .i64 l]) (.int .i64 2)).run Tryz.prog w = .ok (.int .i64 c) w := fun _ => by kernel_rfl
  have i3 : ∀ w, (Instr.index 185 (.agg #[.int .i64 g, .int .i64 p, .int .i64 c, .int .i64 t, .int .i64 l]) (.int .i64 3)).run Tryz.prog w = .ok (.int .i64 t) w := fun _ => by kernel_rfl
  have i4 : ∀ w, (Instr.index 185 (.agg #[.int .i64 g, .int .i64 p, .int .i64 c, .int .i64 t, .int .i64 l]) (.int .i64 4)).run Tryz.prog w = .ok (.int .i64 l) w := fun _ => by kernel_rfl
  obtain ⟨inf, hin, hi0, hi1, hi2⟩ := info_parts byteInfo
  have hmc : madeCells #[Value.int .u8 0] 4 = #[.int .u8 0, .int .u8 0, .int .u8 0, .int .u8 0] := by kernel_rfl
  go_enter Tryz.func57, Tryz.ntmps57
  go_wp2_with (first | (go_at_call 79; refine (right_h _ _ _ _ _ _ _).mono ?_; rintro e w' ⟨rfl, hb⟩; obtain ⟨hc, hf⟩ := bcell hb; have hz := hb.size; (try simp at hz); (try have hz1 : w.heap.size < w'.heap.size := by omega); (try have hz2 : w.heap.size + 1 < w'.heap.size := by omega)) | (go_at_call 74; refine (sizes_any _ _).mono ?_; rintro e w' ⟨rfl, hb⟩; obtain ⟨hc, hf⟩ := bcell hb; have hz := hb.size; (try simp at hz); (try have hz1 : w.heap.size < w'.heap.size := by omega); (try have hz2 : w.heap.size + 1 < w'.heap.size := by omega)))
  refine wp_loop_rounds 6 ?_
  rw [rounds_succ]
  go_wp2
  rw [rounds_succ]
  go_wp2
  rw [rounds_succ]
  go_wp2
  rw [rounds_succ]
  go_wp2
  rw [rounds_succ]
  go_wp2
  rw [rounds_succ]
  go_wp2_with (at_make; refine wpList_make_row _ rfl _ _ _ rfl 5 inf _ Tryz.underlying36 hin hi0 hi1 rfl .i64 .i64 4 rfl rfl (by rw [hi2]; omega) (by omega) ?_; rw [hmc])
  refine wp_loop_rounds 5 ?_
  rw [rounds_succ]
  go_wp2
  rw [rounds_succ]
  go_wp2
  rw [rounds_succ]
  go_wp2
  rw [rounds_succ]
  go_wp2
  rw [rounds_succ]
  go_wp2
  go_ret2
  refine ⟨_, rfl, by omega, by simp, cells_made_at _ (by unfold maxLen; simp) (by simp) 0 _ rfl, cells_made_at _ (by unfold maxLen; simp) (by simp) 1 _ rfl, cells_made_at _ (by unfold maxLen; simp) (by simp) 2 _ rfl, cells_made_at _ (by unfold maxLen; simp) (by simp) 3 _ rfl, by (repeat' (first | exact Below.refl _ _ | assumption | (refine Below.grown ?_ (by assumption) (by first | omega | (simp; omega)) (by simp [Value.ownBlock]; try omega)) | (refine below_drewN ?_ _) | (refine Below.drew ?_) | (refine Below.alloc ?_ (by first | omega | (simp; done) | (simp; omega)) _) | (refine Below.setCell ?_ (by first | omega | (simp; done) | (simp; omega)) _) | (refine below_then ?_ (Aft.below _)) | (apply below_then; rotate_left; assumption)))⟩
theorem pack_true (g p c t l m1 n1 m2 n2 m3 n3 m4 n4 : Int) (w : World) (hr : rightH true g p c t l = true) (f0 : bits .or .i64 0 g = g) (e1 : wrap64 (g * 4096) = m1) (f1 : bits .or .i64 m1 p = n1) (e2 : wrap64 (n1 * 65536) = m2) (f2 : bits .or .i64 m2 c = n2)
    (e3 : wrap64 (n2 * 8) = m3) (f3 : bits .or .i64 m3 t = n3) (e4 : wrap64 (n3 * 2) = m4) (f4 : bits .or .i64 m4 l = n4) : Calls Tryz.prog 57 #[.agg #[.int .i64 g, .int .i64 p, .int .i64 c, .int .i64 t, .int .i64 l], .bool true] w fun e w' => Four w w' n4 e := by
  have i0 : ∀ w, (Instr.index 185 (.agg #[.int .i64 g, .int .i64 p, .int .i64 c, .int .i64 t, .int .i64 l]) (.int .i64 0)).run Tryz.prog w = .ok (.int .i64 g) w := fun _ => by kernel_rfl
  have i1 : ∀ w, (Instr.index 185 (.agg #[.int .i64 g, .int .i64 p, .int .i64 c, .int .i64 t, .int .i64 l]) (.int .i64 1)).run Tryz.prog w = .ok (.int .i64 p) w := fun _ => by kernel_rfl
  have i2 : ∀ w, (Instr.index 185 (.agg #[.int .i64 g, .int .i64 p, .int .i64 c, .int .i64 t, .int .i64 l]) (.int .i64 2)).run Tryz.prog w = .ok (.int .i64 c) w := fun _ => by kernel_rfl
  have i3 : ∀ w, (Instr.index 185 (.agg #[.int .i64 g, .int .i64 p, .int .i64 c, .int .i64 t, .int .i64 l]) (.int .i64 3)).run Tryz.prog w = .ok (.int .i64 t) w := fun _ => by kernel_rfl
  have i4 : ∀ w, (Instr.index 185 (.agg #[.int .i64 g, .int .i64 p, .int .i64 c, .int .i64 t, .int .i64 l]) (.int .i64 4)).run Tryz.prog w = .ok (.int .i64 l) w := fun _ => by kernel_rfl
  obtain ⟨inf, hin, hi0, hi1, hi2⟩ := info_parts byteInfo
  have hmc : madeCells #[Value.int .u8 0] 4 = #[.int .u8 0, .int .u8 0, .int .u8 0, .int .u8 0] := by kernel_rfl
  go_enter Tryz.func57, Tryz.ntmps57
  go_wp2_with (first | (go_at_call 79; refine (right_h _ _ _ _ _ _ _).mono ?_; rintro e w' ⟨rfl, hb⟩; obtain ⟨hc, hf⟩ := bcell hb; have hz := hb.size; (try simp at hz); (try have hz1 : w.heap.size < w'.heap.size := by omega); (try have hz2 : w.heap.size + 1 < w'.heap.size := by omega)) | (go_at_call 74; refine (sizes_any _ _).mono ?_; rintro e w' ⟨rfl, hb⟩; obtain ⟨hc, hf⟩ := bcell hb; have hz := hb.size; (try simp at hz); (try have hz1 : w.heap.size < w'.heap.size := by omega); (try have hz2 : w.heap.size + 1 < w'.heap.size := by omega)))
  refine wp_loop_rounds 6 ?_
  rw [rounds_succ]
  go_wp2
  rw [rounds_succ]
  go_wp2
  rw [rounds_succ]
  go_wp2
  rw [rounds_succ]
  go_wp2
  rw [rounds_succ]
  go_wp2
  rw [rounds_succ]
  go_wp2_with (at_make; refine wpList_make_row _ rfl _ _ _ rfl 5 inf _ Tryz.underlying36 hin hi0 hi1 rfl .i64 .i64 4 rfl rfl (by rw [hi2]; omega) (by omega) ?_; rw [hmc])
  refine wp_loop_rounds 5 ?_
  rw [rounds_succ]
  go_wp2
  rw [rounds_succ]
  go_wp2
  rw [rounds_succ]
  go_wp2
  rw [rounds_succ]
  go_wp2
  rw [rounds_succ]
  go_wp2
  go_ret2
  refine ⟨_, rfl, by omega, by simp, cells_made_at _ (by unfold maxLen; simp) (by simp) 0 _ rfl, cells_made_at _ (by unfold maxLen; simp) (by simp) 1 _ rfl, cells_made_at _ (by unfold maxLen; simp) (by simp) 2 _ rfl, cells_made_at _ (by unfold maxLen; simp) (by simp) 3 _ rfl, by (repeat' (first | exact Below.refl _ _ | assumption | (refine Below.grown ?_ (by assumption) (by first | omega | (simp; omega)) (by simp [Value.ownBlock]; try omega)) | (refine below_drewN ?_ _) | (refine Below.drew ?_) | (refine Below.alloc ?_ (by first | omega | (simp; done) | (simp; omega)) _) | (refine Below.setCell ?_ (by first | omega | (simp; done) | (simp; omega)) _) | (refine below_then ?_ (Aft.below _)) | (apply below_then; rotate_left; assumption)))⟩
theorem pack_yes (g p c t l : Int) (nni : Bool) (w : World) (hr : rightH nni g p c t l = true) : Calls Tryz.prog 57 #[.agg #[.int .i64 g, .int .i64 p, .int .i64 c, .int .i64 t, .int .i64 l], .bool nni] w fun e w' => Four w w' (wordH nni g p c t l) e := by
  have hb := hr
  unfold rightH at hb
  simp only [decide_eq_true_eq] at hb
  cases nni
  · simp at hb
    have f0 : bits .or .i64 0 g = g := by have := or_plus 8 0 g (by omega) (by omega) (by omega) (by omega) (by omega); simpa using this
    refine pack_false g p c t l (g * 256) (g * 256 + p) ((g * 256 + p) * 65536) ((g * 256 + p) * 65536 + c) (((g * 256 + p) * 65536 + c) * 8) (((g * 256 + p) * 65536 + c) * 8 + t) ((((g * 256 + p) * 65536 + c) * 8 + t) * 2) _ w hr f0 (wrap64_id _ (by omega) (by omega)) (or_plus 8 _ _ (by omega) (by omega) (by omega) (by omega) (by omega)) (wrap64_id _ (by omega) (by omega)) (or_plus 16 _ _ (by omega) (by omega) (by omega) (by omega) (by omega)) (wrap64_id _ (by omega) (by omega)) (or_plus 3 _ _ (by omega) (by omega) (by omega) (by omega) (by omega)) (wrap64_id _ (by omega) (by omega)) (or_plus 1 _ _ (by omega) (by omega) (by omega) (by omega) (by omega))
  · simp at hb
    have f0 : bits .or .i64 0 g = g := by have := or_plus 8 0 g (by omega) (by omega) (by omega) (by omega) (by omega); simpa using this
    refine pack_true g p c t l (g * 4096) (g * 4096 + p) ((g * 4096 + p) * 65536) ((g * 4096 + p) * 65536 + c) (((g * 4096 + p) * 65536 + c) * 8) (((g * 4096 + p) * 65536 + c) * 8 + t) ((((g * 4096 + p) * 65536 + c) * 8 + t) * 2) _ w hr f0 (wrap64_id _ (by omega) (by omega)) (or_plus 12 _ _ (by omega) (by omega) (by omega) (by omega) (by omega)) (wrap64_id _ (by omega) (by omega)) (or_plus 16 _ _ (by omega) (by omega) (by omega) (by omega) (by omega)) (wrap64_id _ (by omega) (by omega)) (or_plus 3 _ _ (by omega) (by omega) (by omega) (by omega) (by omega)) (wrap64_id _ (by omega) (by omega)) (or_plus 1 _ _ (by omega) (by omega) (by omega) (by omega) (by omega))
end Go.Proofs.YtaoagbnhomjkpaaGreat

/- The walk of the layer 'header': Unpack. -/
namespace Go.Proofs.YtaoagbnhomjkpaaGreat
set_option linter.unusedVariables false
set_option linter.unusedSimpArgs false
open Go.RowKit
set_option maxRecDepth 100000
set_option maxHeartbeats 4000000
/-- five cells of a header, read as a value. -/
theorem load_header {w : World} {g : Nat} {a b c d e : Int} (h0 : w.cell? ⟨g, 0, none⟩ = some (.int .i64 a)) (h1 : w.cell? ⟨g, 1, none⟩ = some (.int .i64 b)) (h2 : w.cell? ⟨g, 2, none⟩ = some (.int .i64 c)) (h3 : w.cell? ⟨g, 3, none⟩ = some (.int .i64 d)) (h4 : w.cell? ⟨g, 4, none⟩ = some (.int .i64 e)) :
    (loadVar 56 ⟨g, 0, none⟩).run Tryz.prog w = .ok (.agg #[.int .i64 a, .int .i64 b, .int .i64 c, .int .i64 d, .int .i64 e]) w := by
  have hl : (loadCells ⟨g, 0, none⟩ 5).run Tryz.prog w = .ok #[.int .i64 a, .int .i64 b, .int .i64 c, .int .i64 d, .int .i64 e] w :=
    run_loadCells_list (P := Tryz.prog) w ⟨g, 0, none⟩ [.int .i64 a, .int .i64 b, .int .i64 c, .int .i64 d, .int .i64 e] (fun j v hv => by
      have hadd : (⟨g, 0, none⟩ : Addr).add j = ⟨g, j, none⟩ := by unfold Addr.add; split <;> simp_all
      rw [hadd]
      match j, hv with
      | 0, hv => simp at hv; rw [h0, hv]
      | 1, hv => simp at hv; rw [h1, hv]
      | 2, hv => simp at hv; rw [h2, hv]
      | 3, hv => simp at hv; rw [h3, hv]
      | 4, hv => simp at hv; rw [h4, hv]
      | j + 5, hv => simp at hv)
  simp [loadVar, hl]
/-- what stands in five cells behind stores into them, and into a row beside them. -/
theorem hdr_cells {W : World} {g p : Nat} {o : Obj} {b0 b1 b2 b3 b4 a0 a1 a2 a3 a4 v0 v1 v2 v3 v4 : Value} (hp : p ≠ g) (hg : g < W.heap.size)
    (c0 : W.cell? ⟨g, 0, none⟩ = some v0) (c1 : W.cell? ⟨g, 1, none⟩ = some v1) (c2 : W.cell? ⟨g, 2, none⟩ = some v2) (c3 : W.cell? ⟨g, 3, none⟩ = some v3) (c4 : W.cell? ⟨g, 4, none⟩ = some v4) :
    let W' := (((((((((((W.setCell ⟨p, 0, none⟩ b0).setCell ⟨p, 1, none⟩ b1).setCell ⟨p, 2, none⟩ b2).setCell ⟨p, 3, none⟩ b3).setCell ⟨p, 4, none⟩ b4).setCell ⟨g, 0, none⟩ a0).setCell ⟨g, 1, none⟩ a1).setCell ⟨g, 2, none⟩ a2).setCell ⟨g, 3, none⟩ a3).setCell ⟨g, 4, none⟩ a4).alloc o)
    W'.cell? ⟨g, 0, none⟩ = some a0 ∧ W'.cell? ⟨g, 1, none⟩ = some a1 ∧ W'.cell? ⟨g, 2, none⟩ = some a2 ∧ W'.cell? ⟨g, 3, none⟩ = some a3 ∧ W'.cell? ⟨g, 4, none⟩ = some a4 := by
  have n (i j : Nat) : (⟨p, i, none⟩ : Addr) ≠ ⟨g, j, none⟩ := fun h => hp (by injection h)
  have m {i j : Nat} (h : i ≠ j) : (⟨g, i, none⟩ : Addr) ≠ ⟨g, j, none⟩ := fun e => h (by injection e)
  have hs : ∀ i, (⟨g, i, none⟩ : Addr).block < ((((((((((W.setCell ⟨p, 0, none⟩ b0).setCell ⟨p, 1, none⟩ b1).setCell ⟨p, 2, none⟩ b2).setCell ⟨p, 3, none⟩ b3).setCell ⟨p, 4, none⟩ b4).setCell ⟨g, 0, none⟩ a0).setCell ⟨g, 1, none⟩ a1).setCell ⟨g, 2, none⟩ a2).setCell ⟨g, 3, none⟩ a3).setCell ⟨g, 4, none⟩ a4).heap.size := fun i => by simpa using hg
  intro W'
  refine ⟨?_, ?_, ?_, ?_, ?_⟩ <;> (show World.cell? (World.alloc _ _) _ = _) <;> rw [World.cell?_alloc_lt _ _ _ (hs _)]
  · rw [World.cell?_setCell_other _ _ _ _ (m (by decide)), World.cell?_setCell_other _ _ _ _ (m (by decide)), World.cell?_setCell_other _ _ _ _ (m (by decide)), World.cell?_setCell_other _ _ _ _ (m (by decide))]
    refine World.cell?_setCell_same _ _ _ (u := v0) ?_
    simp only [World.cell?_setCell_other _ _ _ _ (n _ _), c0]
  · rw [World.cell?_setCell_other _ _ _ _ (m (by decide)), World.cell?_setCell_other _ _ _ _ (m (by decide)), World.cell?_setCell_other _ _ _ _ (m (by decide))]
    refine World.cell?_setCell_same _ _ _ (u := v1) ?_
    rw [World.cell?_setCell_other _ _ _ _ (m (by decide))]
    simp only [World.cell?_setCell_other _ _ _ _ (n _ _), c1]
  · rw [World.cell?_setCell_other _ _ _ _ (m (by decide)), World.cell?_setCell_other _ _ _ _ (m (by decide))]
    refine World.cell?_setCell_same _ _ _ (u := v2) ?_
    rw [World.cell?_setCell_other _ _ _ _ (m (by decide)), World.cell?_setCell_other _ _ _ _ (m (by decide))]
    simp only [World.cell?_setCell_other _ _ _ _ (n _ _), c2]
  · rw [World.cell?_setCell_other _ _ _ _ (m (by decide))]
    refine World.cell?_setCell_same _ _ _ (u := v3) ?_
    rw [World.cell?_setCell_other _ _ _ _ (m (by decide)), World.cell?_setCell_other _ _ _ _ (m (by decide)), World.cell?_setCell_other _ _ _ _ (m (by decide))]
    simp only [World.cell?_setCell_other _ _ _ _ (n _ _), c3]
  · refine World.cell?_setCell_same _ _ _ (u := v4) ?_
    rw [World.cell?_setCell_other _ _ _ _ (m (by decide)), World.cell?_setCell_other _ _ _ _ (m (by decide)), World.cell?_setCell_other _ _ _ _ (m (by decide)), World.cell?_setCell_other _ _ _ _ (m (by decide))]
    simp only [World.cell?_setCell_other _ _ _ _ (n _ _), c4]
theorem unpack_few (a : Option Addr) (len cap : Nat) (nni : Bool) (w : World) (h : len < 4) (hl : (len : Int) < 4) : Calls Tryz.prog 47 #[.slice a len cap, .bool nni] w fun e w' => e = .returned (.tuple #[.agg #[.int .i64 0, .int .i64 0, .int .i64 0, .int .i64 0, .int .i64 0], .int .i64 2]) ∧ Below w.heap.size w w' := by
  go_enter Tryz.func47, Tryz.ntmps47
  go_wp2
  (try simp only [Exit.inBlock, Exit.then])
  refine bodyPost_ret (results_ct rfl _ _ rfl (v := .agg #[.int .i64 _, .int .i64 _, .int .i64 _, .int .i64 _, .int .i64 _]) ?_) rfl ⟨rfl, by (repeat' (first | exact Below.refl _ _ | assumption | (refine Below.grown ?_ (by assumption) (by first | omega | (simp; omega)) (by simp [Value.ownBlock]; try omega)) | (refine below_drewN ?_ _) | (refine Below.drew ?_) | (refine Below.alloc ?_ (by first | omega | (simp; done) | (simp; omega)) _) | (refine Below.setCell ?_ (by first | omega | (simp; done) | (simp; omega)) _) | (refine below_then ?_ (Aft.below _)) | (apply below_then; rotate_left; assumption)))⟩
  exact run_loadVar_row _ _ _ _ _ _ _ (blk_new _ _) Tryz.underlying56 rfl (by kernel_rfl)
theorem unpack_false (b off cap : Nat) (x y z u m1 n1 m2 n2 m3 n3 : Int) (w : World) (hlt : b < w.heap.size) (hne : ¬ b = w.heap.size) (hne' : ¬ w.heap.size = b) (h0 : w.cell? ⟨b, off, none⟩ = some (.int .u8 x)) (h1 : w.cell? ⟨b, off + 1, none⟩ = some (.int .u8 y)) (h2 : w.cell? ⟨b, off + 2, none⟩ = some (.int .u8 z)) (h3 : w.cell? ⟨b, off + 3, none⟩ = some (.int .u8 u))
    (k0 : wrap64 x = x) (k1 : wrap64 y = y) (k2 : wrap64 z = z) (k3 : wrap64 u = u) (f0 : bits .or .i64 0 x = x) (e1 : wrap64 (x * 256) = m1) (f1 : bits .or .i64 m1 y = n1) (e2 : wrap64 (n1 * 256) = m2) (f2 : bits .or .i64 m2 z = n2) (e3 : wrap64 (n2 * 256) = m3) (f3 : bits .or .i64 m3 u = n3)
    (a0 a1 a2 a3 a4 : Int) (t0 : bits .and .i64 (n3 / 268435456) 15 = a0) (t1 : bits .and .i64 (n3 / 1048576) 255 = a1) (t2 : bits .and .i64 (n3 / 16) 65535 = a2) (t3 : bits .and .i64 (n3 / 2) 7 = a3) (t4 : bits .and .i64 n3 1 = a4) :
    Calls Tryz.prog 47 #[.slice (some ⟨b, off, none⟩) 4 cap, .bool false] w fun e w' => e = .returned (.tuple #[.agg #[.int .i64 a0, .int .i64 a1, .int .i64 a2, .int .i64 a3, .int .i64 a4], .int .i64 0]) ∧ Below w.heap.size w w' := by
  have j0 : ∀ (w' : World) (q : Nat), (Instr.index 188 (.agg #[.pointer (some ⟨q, 0, none⟩), .pointer (some ⟨q, 1, none⟩), .pointer (some ⟨q, 2, none⟩), .pointer (some ⟨q, 3, none⟩), .pointer (some ⟨q, 4, none⟩)]) (.int .i64 0)).run Tryz.prog w' = .ok (.pointer (some ⟨q, 0, none⟩)) w' := fun _ _ => by kernel_rfl
  have j1 : ∀ (w' : World) (q : Nat), (Instr.index 188 (.agg #[.pointer (some ⟨q, 0, none⟩), .pointer (some ⟨q, 1, none⟩), .pointer (some ⟨q, 2, none⟩), .pointer (some ⟨q, 3, none⟩), .pointer (some ⟨q, 4, none⟩)]) (.int .i64 1)).run Tryz.prog w' = .ok (.pointer (some ⟨q, 1, none⟩)) w' := fun _ _ => by kernel_rfl
  have j2 : ∀ (w' : World) (q : Nat), (Instr.index 188 (.agg #[.pointer (some ⟨q, 0, none⟩), .pointer (some ⟨q, 1, none⟩), .pointer (some ⟨q, 2, none⟩), .pointer (some ⟨q, 3, none⟩), .pointer (some ⟨q, 4, none⟩)]) (.int .i64 2)).run Tryz.prog w' = .ok (.pointer (some ⟨q, 2, none⟩)) w' := fun _ _ => by kernel_rfl
  have j3 : ∀ (w' : World) (q : Nat), (Instr.index 188 (.agg #[.pointer (some ⟨q, 0, none⟩), .pointer (some ⟨q, 1, none⟩), .pointer (some ⟨q, 2, none⟩), .pointer (some ⟨q, 3, none⟩), .pointer (some ⟨q, 4, none⟩)]) (.int .i64 3)).run Tryz.prog w' = .ok (.pointer (some ⟨q, 3, none⟩)) w' := fun _ _ => by kernel_rfl
  have j4 : ∀ (w' : World) (q : Nat), (Instr.index 188 (.agg #[.pointer (some ⟨q, 0, none⟩), .pointer (some ⟨q, 1, none⟩), .pointer (some ⟨q, 2, none⟩), .pointer (some ⟨q, 3, none⟩), .pointer (some ⟨q, 4, none⟩)]) (.int .i64 4)).run Tryz.prog w' = .ok (.pointer (some ⟨q, 4, none⟩)) w' := fun _ _ => by kernel_rfl
  go_enter Tryz.func47, Tryz.ntmps47
  go_wp2_with (go_at_call 74; refine (sizes_any _ _).mono ?_; rintro e w' ⟨rfl, hb⟩; obtain ⟨hc, hf⟩ := bcell hb; have hz := hb.size; (try simp at hz); (try have hz1 : w.heap.size < w'.heap.size := by omega); (try have hz2 : w.heap.size + 1 < w'.heap.size := by omega))
  refine wp_loop_rounds 5 ?_
  rw [rounds_succ]
  go_wp2
  rw [rounds_succ]
  go_wp2
  rw [rounds_succ]
  go_wp2
  rw [rounds_succ]
  go_wp2
  rw [rounds_succ]
  go_wp2_with (go_at_call 74; refine (sizes_any _ _).mono ?_; rintro e w' ⟨rfl, hb⟩; obtain ⟨hc, hf⟩ := bcell hb; have hz := hb.size; (try simp at hz); (try have hz1 : w.heap.size < w'.heap.size := by omega); (try have hz2 : w.heap.size + 1 < w'.heap.size := by omega))
  refine wp_loop_rounds 6 ?_
  rw [rounds_succ]
  go_wp2
  refine wp_loop_rounds 5 ?_
  rw [rounds_succ]
  go_wp2
  rw [rounds_succ]
  go_wp2
  rw [rounds_succ]
  go_wp2
  rw [rounds_succ]
  go_wp2
  rw [rounds_succ]
  go_wp2
  go_region
  go_wp2
  rw [rounds_succ]
  go_wp2
  refine wp_loop_rounds 4 ?_
  rw [rounds_succ]
  go_wp2
  rw [rounds_succ]
  go_wp2
  rw [rounds_succ]
  go_wp2
  rw [rounds_succ]
  go_wp2
  go_region
  go_wp2
  rw [rounds_succ]
  go_wp2
  refine wp_loop_rounds 3 ?_
  rw [rounds_succ]
  go_wp2
  rw [rounds_succ]
  go_wp2
  rw [rounds_succ]
  go_wp2
  go_region
  go_wp2
  rw [rounds_succ]
  go_wp2
  refine wp_loop_rounds 2 ?_
  rw [rounds_succ]
  go_wp2
  rw [rounds_succ]
  go_wp2
  go_region
  go_wp2
  rw [rounds_succ]
  go_wp2
  refine wp_loop_rounds 1 ?_
  rw [rounds_succ]
  go_wp2
  go_region
  go_wp2
  rw [rounds_succ]
  go_wp2
  (try simp only [Exit.inBlock, Exit.then])
  refine bodyPost_ret (results_ct rfl _ _ rfl (load_header ?_ ?_ ?_ ?_ ?_)) rfl ⟨rfl, ?_⟩
  rotate_left 5
  · refine Below.drew (Below.drew (Below.drew (Below.drew (Below.drew ?_))))
    refine Below.alloc ?_ (by simp; omega) _
    iterate 10 (refine Below.setCell ?_ (by simp) _)
    exact below_then (((Below.refl _ _).alloc (Nat.le_refl _) _).alloc (by simp) _) hb
  all_goals go_light
  all_goals simp only [World.cell?_drew]
  all_goals have hs := hb.size
  all_goals simp only [World.size_alloc] at hs
  all_goals have q0 : w'.cell? ⟨w.heap.size, 0, none⟩ = some (.int .i64 0) := by go_cell
  all_goals have q1 : w'.cell? ⟨w.heap.size, 1, none⟩ = some (.int .i64 0) := by go_cell
  all_goals have q2 : w'.cell? ⟨w.heap.size, 2, none⟩ = some (.int .i64 0) := by go_cell
  all_goals have q3 : w'.cell? ⟨w.heap.size, 3, none⟩ = some (.int .i64 0) := by go_cell
  all_goals have q4 : w'.cell? ⟨w.heap.size, 4, none⟩ = some (.int .i64 0) := by go_cell
  all_goals have key := hdr_cells (W := w') (g := w.heap.size) (p := w.heap.size + 1) (o := .cells #[.int .i64 4, .int .i64 8, .int .i64 16, .int .i64 3, .int .i64 1] 185) (b0 := .int .i64 a0) (b1 := .int .i64 a1) (b2 := .int .i64 a2) (b3 := .int .i64 a3) (b4 := .int .i64 a4) (a0 := .int .i64 a0) (a1 := .int .i64 a1) (a2 := .int .i64 a2) (a3 := .int .i64 a3) (a4 := .int .i64 a4) (by omega) (by omega) q0 q1 q2 q3 q4
  all_goals clear q0 q1 q2 q3 q4
  · exact key.1
  · exact key.2.1
  · exact key.2.2.1
  · exact key.2.2.2.1
  · exact key.2.2.2.2
theorem unpack_true (b off cap : Nat) (x y z u m1 n1 m2 n2 m3 n3 : Int) (w : World) (hlt : b < w.heap.size) (hne : ¬ b = w.heap.size) (hne' : ¬ w.heap.size = b) (h0 : w.cell? ⟨b, off, none⟩ = some (.int .u8 x)) (h1 : w.cell? ⟨b, off + 1, none⟩ = some (.int .u8 y)) (h2 : w.cell? ⟨b, off + 2, none⟩ = some (.int .u8 z)) (h3 : w.cell? ⟨b, off + 3, none⟩ = some (.int .u8 u))
    (k0 : wrap64 x = x) (k1 : wrap64 y = y) (k2 : wrap64 z = z) (k3 : wrap64 u = u) (f0 : bits .or .i64 0 x = x) (e1 : wrap64 (x * 256) = m1) (f1 : bits .or .i64 m1 y = n1) (e2 : wrap64 (n1 * 256) = m2) (f2 : bits .or .i64 m2 z = n2) (e3 : wrap64 (n2 * 256) = m3) (f3 : bits .or .i64 m3 u = n3)
    (a0 a1 a2 a3 a4 : Int) (t0 : bits .and .i64 (n3 / 4294967296) 0 = a0) (t1 : bits .and .i64 (n3 / 1048576) 4095 = a1) (t2 : bits .and .i64 (n3 / 16) 65535 = a2) (t3 : bits .and .i64 (n3 / 2) 7 = a3) (t4 : bits .and .i64 n3 1 = a4) :
    Calls Tryz.prog 47 #[.slice (some ⟨b, off, none⟩) 4 cap, .bool true] w fun e w' => e = .returned (.tuple #[.agg #[.int .i64 a0, .int .i64 a1, .int .i64 a2, .int .i64 a3, .int .i64 a4], .int .i64 0]) ∧ Below w.heap.size w w' := by
  have j0 : ∀ (w' : World) (q : Nat), (Instr.index 188 (.agg #[.pointer (some ⟨q, 0, none⟩), .pointer (some ⟨q, 1, none⟩), .pointer (some ⟨q, 2, none⟩), .pointer (some ⟨q, 3, none⟩), .pointer (some ⟨q, 4, none⟩)]) (.int .i64 0)).run Tryz.prog w' = .ok (.pointer (some ⟨q, 0, none⟩)) w' := fun _ _ => by kernel_rfl
  have j1 : ∀ (w' : World) (q : Nat), (Instr.index 188 (.agg #[.pointer (some ⟨q, 0, none⟩), .pointer (some ⟨q, 1, none⟩), .pointer (some ⟨q, 2, none⟩), .pointer (some ⟨q, 3, none⟩), .pointer (some ⟨q, 4, none⟩)]) (.int .i64 1)).run Tryz.prog w' = .ok (.pointer (some ⟨q, 1, none⟩)) w' := fun _ _ => by kernel_rfl
  have j2 : ∀ (w' : World) (q : Nat), (Instr.index 188 (.agg #[.pointer (some ⟨q, 0, none⟩), .pointer (some ⟨q, 1, none⟩), .pointer (some ⟨q, 2, none⟩), .pointer (some ⟨q, 3, none⟩), .pointer (some ⟨q, 4, none⟩)]) (.int .i64 2)).run Tryz.prog w' = .ok (.pointer (some ⟨q, 2, none⟩)) w' := fun _ _ => by kernel_rfl
  have j3 : ∀ (w' : World) (q : Nat), (Instr.index 188 (.agg #[.pointer (some ⟨q, 0, none⟩), .pointer (some ⟨q, 1, none⟩), .pointer (some ⟨q, 2, none⟩), .pointer (some ⟨q, 3, none⟩), .pointer (some ⟨q, 4, none⟩)]) (.int .i64 3)).run Tryz.prog w' = .ok (.pointer (some ⟨q, 3, none⟩)) w' := fun _ _ => by kernel_rfl
  have j4 : ∀ (w' : World) (q : Nat), (Instr.index 188 (.agg #[.pointer (some ⟨q, 0, none⟩), .pointer (some ⟨q, 1, none⟩), .pointer (some ⟨q, 2, none⟩), .pointer (some ⟨q, 3, none⟩), .pointer (some ⟨q, 4, none⟩)]) (.int .i64 4)).run Tryz.prog w' = .ok (.pointer (some ⟨q, 4, none⟩)) w' := fun _ _ => by kernel_rfl
  go_enter Tryz.func47, Tryz.ntmps47
  go_wp2_with (go_at_call 74; refine (sizes_any _ _).mono ?_; rintro e w' ⟨rfl, hb⟩; obtain ⟨hc, hf⟩ := bcell hb; have hz := hb.size; (try simp at hz); (try have hz1 : w.heap.size < w'.heap.size := by omega); (try have hz2 : w.heap.size + 1 < w'.heap.size := by omega))
  refine wp_loop_rounds 5 ?_
  rw [rounds_succ]
  go_wp2
  rw [rounds_succ]
  go_wp2
  rw [rounds_succ]
  go_wp2
  rw [rounds_succ]
  go_wp2
  rw [rounds_succ]
  go_wp2_with (go_at_call 74; refine (sizes_any _ _).mono ?_; rintro e w' ⟨rfl, hb⟩; obtain ⟨hc, hf⟩ := bcell hb; have hz := hb.size; (try simp at hz); (try have hz1 : w.heap.size < w'.heap.size := by omega); (try have hz2 : w.heap.size + 1 < w'.heap.size := by omega))
  refine wp_loop_rounds 6 ?_
  rw [rounds_succ]
  go_wp2
  refine wp_loop_rounds 5 ?_
  rw [rounds_succ]
  go_wp2
  rw [rounds_succ]
  go_wp2
  rw [rounds_succ]
  go_wp2
  rw [rounds_succ]
  go_wp2
  rw [rounds_succ]
  go_wp2
  go_region
  go_wp2
  rw [rounds_succ]
  go_wp2
  refine wp_loop_rounds 4 ?_
  rw [rounds_succ]
  go_wp2
  rw [rounds_succ]
  go_wp2
  rw [rounds_succ]
  go_wp2
  rw [rounds_succ]
  go_wp2
  go_region
  go_wp2
  rw [rounds_succ]
  go_wp2
  refine wp_loop_rounds 3 ?_
  rw [rounds_succ]
  go_wp2
  rw [rounds_succ]
  go_wp2
  rw [rounds_succ]
  go_wp2
  go_region
  go_wp2
  rw [rounds_succ]
  go_wp2
  refine wp_loop_rounds 2 ?_
  rw [rounds_succ]
  go_wp2
  rw [rounds_succ]
  go_wp2
  go_region
  go_wp2
  rw [rounds_succ]
  go_wp2
  refine wp_loop_rounds 1 ?_
  rw [rounds_succ]
  go_wp2
  go_region
  go_wp2
  rw [rounds_succ]
  go_wp2
  (try simp only [Exit.inBlock, Exit.then])
  refine bodyPost_ret (results_ct rfl _ _ rfl (load_header ?_ ?_ ?_ ?_ ?_)) rfl ⟨rfl, ?_⟩
  rotate_left 5
  · refine Below.drew (Below.drew (Below.drew (Below.drew (Below.drew ?_))))
    refine Below.alloc ?_ (by simp; omega) _
    iterate 10 (refine Below.setCell ?_ (by simp) _)
    exact below_then (((Below.refl _ _).alloc (Nat.le_refl _) _).alloc (by simp) _) hb
  all_goals go_light
  all_goals simp only [World.cell?_drew]
  all_goals have hs := hb.size
  all_goals simp only [World.size_alloc] at hs
  all_goals have q0 : w'.cell? ⟨w.heap.size, 0, none⟩ = some (.int .i64 0) := by go_cell
  all_goals have q1 : w'.cell? ⟨w.heap.size, 1, none⟩ = some (.int .i64 0) := by go_cell
  all_goals have q2 : w'.cell? ⟨w.heap.size, 2, none⟩ = some (.int .i64 0) := by go_cell
  all_goals have q3 : w'.cell? ⟨w.heap.size, 3, none⟩ = some (.int .i64 0) := by go_cell
  all_goals have q4 : w'.cell? ⟨w.heap.size, 4, none⟩ = some (.int .i64 0) := by go_cell
  all_goals have key := hdr_cells (W := w') (g := w.heap.size) (p := w.heap.size + 1) (o := .cells #[.int .i64 0, .int .i64 12, .int .i64 16, .int .i64 3, .int .i64 1] 185) (b0 := .int .i64 a0) (b1 := .int .i64 a1) (b2 := .int .i64 a2) (b3 := .int .i64 a3) (b4 := .int .i64 a4) (a0 := .int .i64 a0) (a1 := .int .i64 a1) (a2 := .int .i64 a2) (a3 := .int .i64 a3) (a4 := .int .i64 a4) (by omega) (by omega) q0 q1 q2 q3 q4
  all_goals clear q0 q1 q2 q3 q4
  · exact key.1
  · exact key.2.1
  · exact key.2.2.1
  · exact key.2.2.2.1
  · exact key.2.2.2.2
theorem and_mask (k : Nat) (hk : k ≤ 16) (v m : Int) (hm : m = 2 ^ k - 1) (h0 : 0 ≤ v) (h1 : v < 9223372036854775808) : bits .and .i64 v m = v % 2 ^ k := by
  subst hm
  obtain ⟨a, rfl⟩ := Int.eq_ofNat_of_zero_le h0
  have hp : 0 < 2 ^ k := Nat.pow_pos (by decide)
  have hp2 : 2 ^ k ≤ 2 ^ 16 := Nat.pow_le_pow_right (by decide) hk
  have e : ((2 : Int) ^ k - 1) = ((2 ^ k - 1 : Nat) : Int) := by push_cast [Int.ofNat_sub hp]; rfl
  have h2 : (BitVec.ofInt 64 (a : Int)).toNat = a := by simp; omega
  have h3 : (BitVec.ofInt 64 ((2 ^ k - 1 : Nat) : Int)).toNat = 2 ^ k - 1 := by rw [BitVec.ofInt_natCast, BitVec.toNat_ofNat]; omega
  rw [e]
  show IntKind.i64.wrap ((BitVec.ofInt 64 (a : Int) &&& BitVec.ofInt 64 ((2 ^ k - 1 : Nat) : Int)).toNat : Int) = _
  rw [BitVec.toNat_and, h2, h3, Nat.and_two_pow_sub_one_eq_mod]
  have hlt : a % 2 ^ k < 2 ^ k := Nat.mod_lt _ hp
  have e2 : ((a : Int) % 2 ^ k) = ((a % 2 ^ k : Nat) : Int) := by push_cast; rfl
  rw [e2]
  simp [IntKind.bits, IntKind.wrap, IntKind.signed]
  omega
theorem and_mask0 (v : Int) : bits .and .i64 v 0 = 0 := by
  show IntKind.i64.wrap ((BitVec.ofInt 64 v &&& BitVec.ofInt 64 0).toNat : Int) = _
  simp [IntKind.bits, IntKind.wrap, IntKind.signed]
/-- four bytes' number. -/
def word4 (x y z u : Int) : Int := x * 16777216 + y * 65536 + z * 256 + u
def gfcW (nni : Bool) (n : Int) : Int := if nni then 0 else n / 268435456
def vpiW (nni : Bool) (n : Int) : Int := if nni then n / 1048576 else n / 1048576 % 256
theorem unpack_many (a : Option Addr) (len cap : Nat) (nni : Bool) (w : World) (h : 4 < len) (hl : ¬ (len : Int) < 4) (hg : 4 < (len : Int)) : Calls Tryz.prog 47 #[.slice a len cap, .bool nni] w fun e w' => e = .returned (.tuple #[.agg #[.int .i64 0, .int .i64 0, .int .i64 0, .int .i64 0, .int .i64 0], .int .i64 3]) ∧ Below w.heap.size w w' := by
  go_enter Tryz.func47, Tryz.ntmps47
  go_wp2
  (try simp only [Exit.inBlock, Exit.then])
  refine bodyPost_ret (results_ct rfl _ _ rfl (v := .agg #[.int .i64 _, .int .i64 _, .int .i64 _, .int .i64 _, .int .i64 _]) ?_) rfl ⟨rfl, by (repeat' (first | exact Below.refl _ _ | assumption | (refine Below.grown ?_ (by assumption) (by first | omega | (simp; omega)) (by simp [Value.ownBlock]; try omega)) | (refine below_drewN ?_ _) | (refine Below.drew ?_) | (refine Below.alloc ?_ (by first | omega | (simp; done) | (simp; omega)) _) | (refine Below.setCell ?_ (by first | omega | (simp; done) | (simp; omega)) _) | (refine below_then ?_ (Aft.below _)) | (apply below_then; rotate_left; assumption)))⟩
  exact run_loadVar_row _ _ _ _ _ _ _ (blk_new _ _) Tryz.underlying56 rfl (by kernel_rfl)
theorem unpack_yes (b off cap : Nat) (x y z u : Int) (nni : Bool) (w : World) (hlt : b < w.heap.size) (h0 : w.cell? ⟨b, off, none⟩ = some (.int .u8 x)) (h1 : w.cell? ⟨b, off + 1, none⟩ = some (.int .u8 y)) (h2 : w.cell? ⟨b, off + 2, none⟩ = some (.int .u8 z)) (h3 : w.cell? ⟨b, off + 3, none⟩ = some (.int .u8 u))
    (x0 : 0 ≤ x) (x1 : x < 256) (y0 : 0 ≤ y) (y1 : y < 256) (z0 : 0 ≤ z) (z1 : z < 256) (u0 : 0 ≤ u) (u1 : u < 256) :
    Calls Tryz.prog 47 #[.slice (some ⟨b, off, none⟩) 4 cap, .bool nni] w fun e w' =>
      e = .returned (.tuple #[.agg #[.int .i64 (gfcW nni (word4 x y z u)), .int .i64 (vpiW nni (word4 x y z u)), .int .i64 (word4 x y z u / 16 % 65536), .int .i64 (word4 x y z u / 2 % 8), .int .i64 (word4 x y z u % 2)], .int .i64 0]) ∧ Below w.heap.size w w' := by
  have f0 : bits .or .i64 0 x = x := by have := or_plus 8 0 x (by omega) (by omega) (by omega) (by omega) (by omega); simpa using this
  have hn : word4 x y z u = ((x * 256 + y) * 256 + z) * 256 + u := by unfold word4; omega
  have hb : 0 ≤ word4 x y z u ∧ word4 x y z u < 4294967296 := by unfold word4; omega
  cases nni
  · have g0 : bits .and .i64 (word4 x y z u / 268435456) 15 = gfcW false (word4 x y z u) := by
      rw [and_mask 4 (by omega) _ 15 (by decide) (by omega) (by omega)]; unfold gfcW; simp; omega
    have g1 : bits .and .i64 (word4 x y z u / 1048576) 255 = vpiW false (word4 x y z u) := by
      rw [and_mask 8 (by omega) _ 255 (by decide) (by omega) (by omega)]; unfold vpiW; simp
    have g2 : bits .and .i64 (word4 x y z u / 16) 65535 = word4 x y z u / 16 % 65536 := by
      rw [and_mask 16 (by omega) _ 65535 (by decide) (by omega) (by omega)]; rfl
    have g3 : bits .and .i64 (word4 x y z u / 2) 7 = word4 x y z u / 2 % 8 := by
      rw [and_mask 3 (by omega) _ 7 (by decide) (by omega) (by omega)]; rfl
    have g4 : bits .and .i64 (word4 x y z u) 1 = word4 x y z u % 2 := by
      rw [and_mask 1 (by omega) _ 1 (by decide) (by omega) (by omega)]; rfl
    rw [hn] at g0 g1 g2 g3 g4 ⊢
    exact unpack_false b off cap x y z u (x * 256) (x * 256 + y) ((x * 256 + y) * 256) ((x * 256 + y) * 256 + z) (((x * 256 + y) * 256 + z) * 256) _ w hlt (by omega) (by omega) h0 h1 h2 h3 (wrap64_id _ (by omega) (by omega)) (wrap64_id _ (by omega) (by omega)) (wrap64_id _ (by omega) (by omega)) (wrap64_id _ (by omega) (by omega)) f0 (wrap64_id _ (by omega) (by omega)) (or_plus 8 _ _ (by omega) (by omega) (by omega) (by omega) (by omega)) (wrap64_id _ (by omega) (by omega)) (or_plus 8 _ _ (by omega) (by omega) (by omega) (by omega) (by omega)) (wrap64_id _ (by omega) (by omega)) (or_plus 8 _ _ (by omega) (by omega) (by omega) (by omega) (by omega)) _ _ _ _ _ g0 g1 g2 g3 g4
  · have g0 : bits .and .i64 (word4 x y z u / 4294967296) 0 = gfcW true (word4 x y z u) := and_mask0 _
    have g1 : bits .and .i64 (word4 x y z u / 1048576) 4095 = vpiW true (word4 x y z u) := by
      rw [and_mask 12 (by omega) _ 4095 (by decide) (by omega) (by omega)]; unfold vpiW; simp; omega
    have g2 : bits .and .i64 (word4 x y z u / 16) 65535 = word4 x y z u / 16 % 65536 := by
      rw [and_mask 16 (by omega) _ 65535 (by decide) (by omega) (by omega)]; rfl
    have g3 : bits .and .i64 (word4 x y z u / 2) 7 = word4 x y z u / 2 % 8 := by
      rw [and_mask 3 (by omega) _ 7 (by decide) (by omega) (by omega)]; rfl
    have g4 : bits .and .i64 (word4 x y z u) 1 = word4 x y z u % 2 := by
      rw [and_mask 1 (by omega) _ 1 (by decide) (by omega) (by omega)]; rfl
    rw [hn] at g0 g1 g2 g3 g4 ⊢
    exact unpack_true b off cap x y z u (x * 256) (x * 256 + y) ((x * 256 + y) * 256) ((x * 256 + y) * 256 + z) (((x * 256 + y) * 256 + z) * 256) _ w hlt (by omega) (by omega) h0 h1 h2 h3 (wrap64_id _ (by omega) (by omega)) (wrap64_id _ (by omega) (by omega)) (wrap64_id _ (by omega) (by omega)) (wrap64_id _ (by omega) (by omega)) f0 (wrap64_id _ (by omega) (by omega)) (or_plus 8 _ _ (by omega) (by omega) (by omega) (by omega) (by omega)) (wrap64_id _ (by omega) (by omega)) (or_plus 8 _ _ (by omega) (by omega) (by omega) (by omega) (by omega)) (wrap64_id _ (by omega) (by omega)) (or_plus 8 _ _ (by omega) (by omega) (by omega) (by omega) (by omega)) _ _ _ _ _ g0 g1 g2 g3 g4
end Go.Proofs.YtaoagbnhomjkpaaGreat

/- The walks of the reference of the layer 'header'. -/
namespace Go.Proofs.YtaoagbnhomjkpaaGreat
set_option linter.unusedVariables false
set_option linter.unusedSimpArgs false
open Go.RowKit
set_option maxRecDepth 100000
set_option maxHeartbeats 4000000
/-- a header's numbers, and how many bits each has, in memory that the call made. -/
def FieldsPost (w w' : World) (nni : Bool) (g p c t l : Int) (e : Ending) : Prop :=
  ∃ b d, e = .returned (.tuple #[.slice (some ⟨b, 0, none⟩) 5 5, .slice (some ⟨d, 0, none⟩) 5 5]) ∧ w.heap.size ≤ b ∧ b < w'.heap.size ∧ w.heap.size ≤ d ∧ d < w'.heap.size ∧
    w'.cell? ⟨b, 0, none⟩ = some (.int .i64 g) ∧ w'.cell? ⟨b, 1, none⟩ = some (.int .i64 p) ∧ w'.cell? ⟨b, 2, none⟩ = some (.int .i64 c) ∧ w'.cell? ⟨b, 3, none⟩ = some (.int .i64 t) ∧ w'.cell? ⟨b, 4, none⟩ = some (.int .i64 l) ∧
    w'.cell? ⟨d, 0, none⟩ = some (.int .i64 (if nni then 0 else 4)) ∧ w'.cell? ⟨d, 1, none⟩ = some (.int .i64 (if nni then 12 else 8)) ∧ w'.cell? ⟨d, 2, none⟩ = some (.int .i64 16) ∧ w'.cell? ⟨d, 3, none⟩ = some (.int .i64 3) ∧ w'.cell? ⟨d, 4, none⟩ = some (.int .i64 1) ∧
    Below w.heap.size w w'
def Four1 (w w' : World) (n : Int) (e : Ending) : Prop :=
  ∃ b, e = .returned (.slice (some ⟨b, 0, none⟩) 4 4) ∧ w.heap.size ≤ b ∧ b < w'.heap.size ∧
    w'.cell? ⟨b, 0, none⟩ = some (.int .u8 (n / 16777216 % 256)) ∧ w'.cell? ⟨b, 1, none⟩ = some (.int .u8 (n / 65536 % 256)) ∧ w'.cell? ⟨b, 2, none⟩ = some (.int .u8 (n / 256 % 256)) ∧ w'.cell? ⟨b, 3, none⟩ = some (.int .u8 (n % 256)) ∧
    Below w.heap.size w w'
end Go.Proofs.YtaoagbnhomjkpaaGreat

/- The walks of the laws HeaderKinds and HeaderSides, whole. -/
namespace Go.Proofs.YtaoagbnhomjkpaaGreat
set_option linter.unusedVariables false
set_option linter.unusedSimpArgs false
open Go.RowKit
set_option maxRecDepth 100000
set_option maxHeartbeats 4000000
theorem kindZ_c {p c t l l' : Int} (h : c ≠ 0) : kindZ p c t l' = kindZ p c t l := by unfold kindZ; simp [h]
theorem kindZ_b (p c t l : Int) : 1 ≤ kindZ p c t l ∧ kindZ p c t l ≤ 10 := by unfold kindZ; repeat' split
                                                                               all_goals omega
theorem kindZ_n {p c t l : Int} (h : c ≠ 0) : kindZ p c t l ≠ 2 ∧ kindZ p c t l ≠ 3 := by
  unfold kindZ; simp [h]
  repeat' split
  all_goals omega
theorem kindZ_p {p t l : Int} (h : p ≠ 0) : kindZ p 0 t l = 10 := by unfold kindZ; simp [h]
theorem kindZ_u (t : Int) : kindZ 0 0 t 0 = 3 := by unfold kindZ; simp
theorem kindZ_i : kindZ 0 0 0 1 = 2 := by unfold kindZ; simp
theorem kindZ_r {t : Int} (h : t ≠ 0) : kindZ 0 0 t 1 = 10 := by unfold kindZ; simp [h]
theorem kindZ_l {t l : Int} (h0 : l ≠ 0) (h1 : l ≠ 1) : kindZ 0 0 t l = 10 := by unfold kindZ; simp [h0, h1]
attribute [local irreducible] rightH wordH
theorem alloc_cell {w : World} {b o : Nat} {v : Value} {ob : Obj} (h : b < w.heap.size) (hv : w.cell? ⟨b, o, none⟩ = some v) : (w.alloc ob).cell? ⟨b, o, none⟩ = some v :=
  (((Below.refl _ _).alloc (Nat.le_refl _) ob).cell (p := ⟨b, o, none⟩) h).trans hv
end Go.Proofs.YtaoagbnhomjkpaaGreat

/- A region that draws its order, in which a call hands back memory of its own: one walk, in an order of ours. Quiet operations go by the kit's own quiet walk; a loose one is a call that is met in whatever world has come by then. -/
namespace Go.Proofs.YtaoagbnhomjkpaaGreat
set_option linter.unusedVariables false
set_option linter.unusedSimpArgs false
open Go.RowKit
section
variable {P : Program} {ops : Array Oper} {md : Region.Mode}
/-- a world behind w0: nothing that was there has turned. -/
def Ge (w0 : World) : World → Prop := fun w => ∃ g : Aft w0, w = g.w
theorem Ge.of {w0 w : World} (h : Below w0.heap.size w0 w) : Ge w0 w := ⟨⟨w, h⟩, rfl⟩
theorem Ge.below {w0 w : World} (h : Ge w0 w) : Below w0.heap.size w0 w := by obtain ⟨g, rfl⟩ := h; exact g.below
theorem Ge.refl (w0 : World) : Ge w0 w0 := Ge.of (Below.refl _ _)
theorem Ge.trans {a b c : World} (h : Ge a b) (k : Ge b c) : Ge a c := Ge.of (below_then h.below k.below)
/-- an operation that enters no function. -/
def plainOp : Op → Bool
  | .move _ | .assign _ | .pick .. | .load .. | .binOp .. | .unOp .. | .convert .. | .fieldAddr .. | .field .. | .indexAddr .. | .index .. | .extract .. | .slice .. => true
  | _ => false
theorem sem_bind_value {s : Sem Value} {w w' : World} {n : Next} (h : (do pure (Next.value (← s)) : Sem Next).run P w = .ok n w') : ∃ u, n = .value u := by
  rw [Sem.run_bind] at h
  generalize s.run P w = r at h
  cases r with
  | halt x w1 => simp at h
  | ok u w1 => simp [go_sem] at h; exact ⟨u, h.1.symm⟩
theorem plain_value {o : Oper} {ρ : Operand → Value} {w w' : World} {n : Next} (hp : plainOp o.op = true) (h : (execOp ρ o).run P w = .ok n w') : ∃ u, n = .value u := by
  unfold execOp at h
  cases ho : o.op <;> simp only [ho, plainOp, Bool.false_eq_true] at hp h
  case move x => simp [go_sem] at h; exact ⟨_, h.1.symm⟩
  case assign x => simp [go_sem] at h; exact ⟨_, h.1.symm⟩
  case pick c a b =>
    rw [Sem.run_bind] at h
    generalize Sem.run P (asBool (ρ c)) w = r at h
    cases r with
    | halt x w1 => simp at h
    | ok u w1 => simp [go_sem] at h; exact ⟨_, h.1.symm⟩
  all_goals exact sem_bind_value h
theorem quiet_down {o : Oper} {a : Act} {U U' : World → Prop} {v : Value} {w : World} (hp : plainOp o.op = true) (h : o.quietAt P a U w v) : o.quietAt P a U' w v := by
  unfold Oper.quietAt at *
  generalize hr : (execOp a.eval o).run P w = r at *
  cases r with
  | halt x w' => exact h.elim
  | ok n w' =>
    obtain ⟨u, rfl⟩ := plain_value hp hr
    exact h
theorem yields_down {o : Oper} {a : Act} {v : Value} {w0 w1 : World} (hp : plainOp o.op = true) (hg : Ge w0 w1) (h : YieldsIn P ops (Ge w0) o v a) : YieldsIn P ops (Ge w1) o v a := by
  rcases h with ⟨hw, h⟩ | h
  · exact .inl ⟨hw, fun w hw' => quiet_down hp (h w (hg.trans hw'))⟩
  · exact .inr h
/-- what a loose operation is asked. -/
def looseUpon (P : Program) (o : Oper) (a : Act) (next : Act → World → Prop) : Result Next → Prop
  | .ok (.value v) w' => next (a.put o.dst v) w'
  | .ok (.enter f args) w' => Calls P f args w' fun e w'' => ∃ v, e = .returned v ∧ next (a.put o.dst v) w''
  | _ => False
def looseAt (P : Program) (o : Oper) (a : Act) (w : World) (next : Act → World → Prop) : Prop := looseUpon P o a next ((execOp a.eval o).run P w)
theorem loose_mono {o : Oper} {a : Act} {w : World} {K K' : Act → World → Prop} (hk : ∀ a w, K a w → K' a w) (h : looseAt P o a w K) : looseAt P o a w K' := by
  unfold looseAt at *
  generalize (execOp a.eval o).run P w = r at *
  cases r with
  | halt x w' => exact h
  | ok n w' =>
    cases n <;> simp only [looseUpon] at h ⊢
    case value u => exact hk _ _ h
    case enter f args => exact h.mono fun e w'' ⟨v, he, hn⟩ => ⟨v, he, hk _ _ hn⟩
theorem loose_wp {o : Oper} {a : Act} {w : World} {K : Act → World → Prop} {Q : Exit → Act → World → Prop} (h : looseAt P o a w K) : o.wp P a w K Q := by
  unfold looseAt at h
  unfold Oper.wp
  generalize (execOp a.eval o).run P w = r at *
  cases r with
  | halt x w' => exact h.elim
  | ok n w' =>
    cases n <;> simp only [looseUpon] at h <;> simp only [Oper.upon]
    case value u => exact h
    case enter f args => exact h.mono fun e w'' ⟨v, he, hn⟩ => by subst he; exact hn
/-- operation number i: quiet, or a loose one. -/
def sOp (P : Program) (ops : Array Oper) (loose : Nat → Bool) (w0 : World) (i : Nat) (K : World → Act → Prop) (a : Act) : Prop :=
  match ops[i]? with
  | none => K w0 a
  | some o => if Region.wanted o (yielded ops a.tmps) then o.quiet P a (Ge w0) (K w0) ∨ (loose i = true ∧ ∀ w, Ge w0 w → looseAt P o a w fun a' w' => Ge w w' ∧ K w' a') else K w0 (a.put o.dst undef)
theorem sOp_mono {loose : Nat → Bool} {i : Nat} {a : Act} {w0 : World} {K K' : World → Act → Prop} (h : ∀ w1 a, Ge w0 w1 → K w1 a → K' w1 a) (hh : sOp P ops loose w0 i K a) : sOp P ops loose w0 i K' a := by
  unfold sOp at *
  split
  · exact h _ _ (Ge.refl _) (by simpa [*] using hh)
  · rename_i o ho
    simp only [ho] at hh
    split
    · rename_i hw
      simp only [hw, if_true] at hh
      rcases hh with hh | ⟨hl, hh⟩
      · exact .inl (Oper.quiet_mono (fun a => h w0 a (Ge.refl _)) hh)
      · exact .inr ⟨hl, fun w hw' => loose_mono (fun a' w' ⟨h1, h2⟩ => ⟨h1, h _ _ (hw'.trans h1) h2⟩) (hh w hw')⟩
    · rename_i hw; simp only [hw] at hh; exact h _ _ (Ge.refl _) hh
def sAny (P : Program) (md : Region.Mode) (ops : Array Oper) (loose : Nat → Bool) (Q : World → Act → Prop) : Nat → Array Bool → World → Act → Prop
  | 0, listed, w0, a => Region.ready md ops listed = [] ∧ Q w0 a
  | fuel + 1, listed, w0, a =>
    (Region.ready md ops listed = [] → Q w0 a) ∧
    ∀ i ∈ Region.ready md ops listed, sOp P ops loose w0 i (sAny P md ops loose Q fuel (listed.setIfInBounds i true)) a
theorem wpOp_of_sOp {loose : Nat → Bool} {i : Nat} {a : Act} {w0 w : World} {K : World → Act → Prop} {K' : Act → World → Prop} {Q' : Exit → Act → World → Prop} (hC : Ge w0 w) (h : ∀ w1 a w', Ge w0 w1 → Ge w1 w' → K w1 a → K' a w') (hh : sOp P ops loose w0 i K a) : wpOp P ops Q' i K' a w := by
  unfold sOp at hh
  unfold wpOp
  split
  · rename_i ho; simp only [ho] at hh; exact h _ _ _ (Ge.refl _) hC hh
  · rename_i o ho
    simp only [ho] at hh
    split
    · rename_i hw
      simp only [hw, if_true] at hh
      rcases hh with hh | ⟨hl, hh⟩
      · exact .inl (Oper.wp_of_quiet hC (fun a w' hw' hk => h _ _ _ (Ge.refl _) hw' hk) hh)
      · exact .inl (loose_wp (loose_mono (fun a' w' ⟨h1, h2⟩ => h _ _ _ (hC.trans h1) (Ge.refl _) h2) (hh w hC)))
    · rename_i hw; simp only [hw] at hh; exact h _ _ _ (Ge.refl _) hC hh
theorem wpAny_of_s {loose : Nat → Bool} {Q : World → Act → Prop} {Q' : Exit → Act → World → Prop} (hQ : ∀ w0 a w, Ge w0 w → Q w0 a → Q' .normal a w) : ∀ (fuel : Nat) (listed : Array Bool) (w0 : World) (a : Act) (w : World), Ge w0 w →
    sAny P md ops loose Q fuel listed w0 a → wpAny P md ops Q' fuel listed a w
  | 0, _, _, _, _, hw, h => ⟨h.1, hQ _ _ _ hw h.2⟩
  | fuel + 1, _, _, _, _, hw, h => ⟨fun h0 => hQ _ _ _ hw (h.1 h0), fun i hi => wpOp_of_sOp hw (fun w1 a' w' _ hw' => wpAny_of_s hQ fuel _ w1 a' w' hw') (h.2 i hi)⟩
theorem yields_sOp {loose : Nat → Bool} {i : Nat} {o : Oper} {v : Value} {w0 : World} {a : Act} (hi : ops[i]? = some o) (hy : YieldsIn P ops (Ge w0) o v a) {K : World → Act → Prop} (h : K w0 (a.put o.dst v)) : sOp P ops loose w0 i K a := by
  unfold sOp
  simp only [hi]
  rcases hy with ⟨hw, hv⟩ | ⟨hw, rfl⟩
  · simp only [hw, if_true]; exact .inl ⟨v, hv, h⟩
  · simp only [hw, Bool.false_eq_true, if_false]; exact h
theorem sOp_put {loose : Nat → Bool} {j : Nat} {oi oj : Oper} {v : Value} {w0 : World} (hj : ops[j]? = some oj) (hap : oi.apart ops oj = true)
    (hsi : ∀ cs b, oi.op ≠ .select cs b) (hsj : ∀ cs b, oj.op ≠ .select cs b) (hpl : loose j = true → plainOp oi.op = true) {K : World → Act → Prop} {a : Act}
    (hy : YieldsIn P ops (Ge w0) oi v a) (h : sOp P ops loose w0 j K (a.put oi.dst v)) :
    sOp P ops loose w0 j (fun w1 a' => YieldsIn P ops (Ge w1) oi v a' ∧ K w1 (a'.put oi.dst v)) a := by
  obtain ⟨h1, h2, h3⟩ := Oper.apart_spec hap
  have keep : ∀ (w1 : World) (a : Act), YieldsIn P ops (Ge w1) oi v a → ∀ u, YieldsIn P ops (Ge w1) oi v (a.put oj.dst u) := fun w1 a hy u =>
    hy.of_same (execOp_put oi hsi a oj.dst u h3) (wanted_put oi a oj.dst u h3)
  unfold sOp at *
  simp only [hj] at *
  rw [wanted_put oj a oi.dst v h1] at h
  split
  · rename_i hw
    simp only [hw, if_true] at h
    rcases h with h | ⟨hl, h⟩
    · obtain ⟨u, hu, hn⟩ := h
      refine .inl ⟨u, fun w hw' => ?_, keep _ a hy u, by rw [← Act.put_comm a v u h2]; exact hn⟩
      have := hu w hw'
      unfold Oper.quietAt at *
      rwa [execOp_put oj hsj a oi.dst v h1] at this
    · refine .inr ⟨hl, fun w hw' => ?_⟩
      have h4 := h w hw'
      unfold looseAt at *
      rw [execOp_put oj hsj a oi.dst v h1] at h4
      generalize (execOp a.eval oj).run P w = r at *
      cases r with
      | halt x w' => exact h4
      | ok n w' =>
        cases n <;> simp only [looseUpon] at h4 ⊢
        case value u => exact ⟨h4.1, keep _ a (yields_down (hpl hl) (hw'.trans h4.1) hy) u, by rw [← Act.put_comm a v u h2]; exact h4.2⟩
        case enter f args => exact h4.mono fun e w'' ⟨u, he, h5, h6⟩ => ⟨u, he, h5, keep _ a (yields_down (hpl hl) (hw'.trans h5) hy) u, by rw [← Act.put_comm a v u h2]; exact h6⟩
  · rename_i hw
    simp only [hw] at h
    exact ⟨keep _ a hy _, by rw [← Act.put_comm a v undef h2]; exact h⟩
/-- does an operation wait for another one, in some steps? -/
def waitsFor (md : Region.Mode) (ops : Array Oper) : Nat → Nat → Nat → Bool
  | 0, _, _ => false
  | fuel + 1, j, i => match ops[j]? with
    | none => false
    | some o => o.after.any fun e => Region.binds md e && (e.on == i || waitsFor md ops fuel e.on i)
def Closed (md : Region.Mode) (ops : Array Oper) (listed : Array Bool) : Prop :=
  ∀ k o, ops[k]? = some o → listed.getD k false = true → ∀ e ∈ o.after, Region.binds md e = true → listed.getD e.on false = true
theorem waits_listed {listed : Array Bool} (hc : Closed md ops listed) : ∀ (fuel j i : Nat), waitsFor md ops fuel j i = true → (∀ o, ops[j]? = some o → ∀ e ∈ o.after, Region.binds md e = true → listed.getD e.on false = true) → listed.getD i false = true
  | 0, _, _, h, _ => by simp [waitsFor] at h
  | fuel + 1, j, i, h, hall => by
    unfold waitsFor at h
    cases ho : ops[j]? with
    | none => simp [ho] at h
    | some o =>
      simp only [ho] at h
      rw [← Array.any_toList, List.any_eq_true] at h
      obtain ⟨e, he0, h2⟩ := h
      have he : e ∈ o.after := Array.mem_toList_iff.1 he0
      simp only [Bool.and_eq_true, Bool.or_eq_true, beq_iff_eq] at h2
      obtain ⟨hb, h3 | h3⟩ := h2
      · rw [← h3]; exact hall o ho e he hb
      · exact waits_listed hc fuel e.on i h3 (fun o' ho' e' he' hb' => hc e.on o' ho' (hall o ho e he hb) e' he' hb')
theorem closed_set {listed : Array Bool} (hc : Closed md ops listed) {j : Nat} (hj : j ∈ Region.ready md ops listed) : Closed md ops (listed.setIfInBounds j true) := by
  intro k o ho hk e he hb
  by_cases hkj : k = j
  · subst hkj
    obtain ⟨_, o', ho', hall⟩ := mem_ready.1 hj
    rw [ho] at ho'; cases ho'
    exact getD_set_true (hall e he hb)
  · refine getD_set_true (hc k o ho ?_ e he hb)
    rw [getD_set_ne false (Ne.symm hkj)] at hk
    exact hk
theorem sAny_first {loose : Nat → Bool} {Q : World → Act → Prop} {i : Nat} {oi : Oper} {v : Value} (hi : ops[i]? = some oi) (hsel : ∀ (j : Nat) (o : Oper) cs b, ops[j]? = some o → o.op ≠ .select cs b) (fl : Nat)
    (hlo : plainOp oi.op = true ∨ ∀ j, j < ops.size → loose j = true → j ≠ i → waitsFor md ops fl j i = true ∨ waitsFor md ops fl i j = true) :
    ∀ (fuel : Nat) (listed : Array Bool) (w0 : World) (a : Act), Closed md ops listed →
      (∀ j oj, ops[j]? = some oj → j ≠ i → listed.getD j true = false → (∀ e ∈ oj.after, Region.binds md e = true → e.on ≠ i) → oi.apart ops oj = true) →
      i ∈ Region.ready md ops listed → YieldsIn P ops (Ge w0) oi v a →
      sAny P md ops loose Q fuel (listed.setIfInBounds i true) w0 (a.put oi.dst v) → sAny P md ops loose Q (fuel + 1) listed w0 a := by
  intro fuel
  induction fuel with
  | zero =>
    intro listed w0 a _ _ hr hy H
    refine ⟨fun h => (by rw [h] at hr; cases hr), fun j hj => ?_⟩
    by_cases hji : j = i
    · subst hji; exact yields_sOp hi hy H
    · have := ready_mono hj hji
      rw [H.1] at this
      cases this
  | succ fuel ih =>
    intro listed w0 a hcl hfree hr hy H
    refine ⟨fun h => (by rw [h] at hr; cases hr), fun j hj => ?_⟩
    by_cases hji : j = i
    · subst hji; exact yields_sOp hi hy H
    · have h1 := H.2 j (ready_mono hj hji)
      obtain ⟨hjun, oj, hoj, hall⟩ := mem_ready.1 hj
      have hiun := (mem_ready.1 hr).1
      have hnl : ∀ b, listed.getD i b = true → listed.getD i true = false → b = true ∧ False := fun b h1 h0 => by
        rcases Nat.lt_or_ge i listed.size with h' | h'
        · simp [h'] at h0 h1; rw [h0] at h1; cases h1
        · simp [Array.getElem?_eq_none h'] at h0
      have hnot : ∀ e ∈ oj.after, Region.binds md e = true → e.on ≠ i := fun e he hb heq => by
        have h1 := hall e he hb
        rw [heq] at h1
        exact (hnl _ h1 hiun).2
      have hpl : loose j = true → plainOp oi.op = true := fun hl => by
        rcases hlo with h | h
        · exact h
        · rcases h j (Array.getElem?_eq_some_iff.1 hoj).1 hl hji with h2 | h2
          · have h3 := waits_listed hcl fl j i h2 (fun o' ho' e he hb => by rw [hoj] at ho'; cases ho'; exact hall e he hb)
            exact ((hnl _ h3 hiun).2).elim
          · obtain ⟨_, oi', hoi', halli⟩ := mem_ready.1 hr
            have h3 := waits_listed hcl fl i j h2 (fun o' ho' e he hb => by rw [hoi'] at ho'; cases ho'; exact halli e he hb)
            exfalso
            rcases Nat.lt_or_ge j listed.size with h' | h'
            · simp [h'] at h3 hjun; rw [hjun] at h3; cases h3
            · simp [Array.getElem?_eq_none h'] at hjun
      have h2 := sOp_put hoj (hfree j oj hoj hji hjun hnot) (fun cs b => hsel i oi cs b hi) (fun cs b => hsel j oj cs b hoj) hpl hy h1
      have hfree' : ∀ k ok, ops[k]? = some ok → k ≠ i → (listed.setIfInBounds j true).getD k true = false →
          (∀ e ∈ ok.after, Region.binds md e = true → e.on ≠ i) → oi.apart ops ok = true := fun k ok hk hki hun hno => by
        refine hfree k ok hk hki ?_ hno
        by_cases hjk : j = k
        · subst hjk; exact hjun
        · rw [getD_set_ne true hjk] at hun; exact hun
      refine sOp_mono (fun w1 a' _ h3 => ih (listed.setIfInBounds j true) w1 a' (closed_set hcl hj) hfree' (ready_mono hr (Ne.symm hji)) h3.1 ?_) h2
      rw [Array.setIfInBounds_comm _ _ hji]
      exact h3.2
/-- the order of ours: is it one, and may each quiet operation be taken first, and does each loose one stand alone? -/
def segsB (md : Region.Mode) (ops : Array Oper) (loose : Nat → Bool) : List Nat → Array Bool → Bool
  | [], listed => (Region.ready md ops listed).isEmpty
  | k :: rest, listed =>
    (if loose k then decide (Region.ready md ops listed = [k])
      else (Region.ready md ops listed).contains k && Region.free md ops listed k && (match ops[k]? with
        | some o => plainOp o.op || (List.range ops.size).all fun j => !loose j || j == k || waitsFor md ops ops.size j k || waitsFor md ops ops.size k j
        | none => false)) && segsB md ops loose rest (listed.setIfInBounds k true)
/-- the walk in that order. -/
def wpSegs (P : Program) (ops : Array Oper) (loose : Nat → Bool) (Q : World → Act → Prop) : List (Nat × Oper) → World → Act → Prop
  | [], w0, a => Q w0 a
  | (k, o) :: rest, w0, a =>
    if loose k then
      if Region.wanted o (yielded ops a.tmps) then ∀ w, Ge w0 w → looseAt P o a w fun a' w' => Ge w w' ∧ wpSegs P ops loose Q rest w' a' else wpSegs P ops loose Q rest w0 (a.put o.dst undef)
    else
      if Region.wanted o (yielded ops a.tmps) then o.quiet P a (Ge w0) (wpSegs P ops loose Q rest w0) else wpSegs P ops loose Q rest w0 (a.put o.dst undef)
theorem sAny_of_segs {loose : Nat → Bool} {Q : World → Act → Prop} (hs : Region.noSelect ops = true) : ∀ (l : List (Nat × Oper)) (listed : Array Bool) (w0 : World) (a : Act), (∀ p ∈ l, ops[p.1]? = some p.2) → Closed md ops listed →
    segsB md ops loose (l.map (·.1)) listed = true → wpSegs P ops loose Q l w0 a → sAny P md ops loose Q l.length listed w0 a
  | [], _, _, _, _, _, hB, h => ⟨by simpa [segsB] using hB, h⟩
  | (k, o) :: l, listed, w0, a, hl, hc, hB, h => by
    have h0 : ops[k]? = some o := hl (k, o) (by simp)
    simp only [List.map_cons, segsB, Bool.and_eq_true] at hB
    obtain ⟨hk, hB'⟩ := hB
    have hl' : ∀ p ∈ l, ops[p.1]? = some p.2 := fun p hp => hl p (by simp [hp])
    unfold wpSegs at h
    by_cases hlk : loose k = true
    · simp only [hlk, if_true, decide_eq_true_eq] at hk h
      have hr : k ∈ Region.ready md ops listed := by rw [hk]; simp
      show (_ → _) ∧ _
      refine ⟨fun h1 => (by rw [h1] at hk; cases hk), fun j hj => ?_⟩
      rw [hk] at hj
      obtain rfl : j = k := by simpa using hj
      have ih2 := fun w1 a' => sAny_of_segs (Q := Q) hs l (listed.setIfInBounds j true) w1 a' hl' (closed_set hc hr) hB'
      unfold sOp
      simp only [h0]
      split
      · rename_i hw
        simp only [hw, if_true] at h
        exact .inr ⟨hlk, fun w hw' => loose_mono (fun a' w' ⟨h1, h2⟩ => ⟨h1, ih2 _ _ h2⟩) (h w hw')⟩
      · rename_i hw
        simp only [hw] at h
        exact ih2 _ _ h
    · have hlk' : loose k = false := by simpa using hlk
      simp only [hlk', Bool.false_eq_true, if_false, Bool.and_eq_true, h0] at hk h
      obtain ⟨⟨hr, hf⟩, hp⟩ := hk
      have hr' : k ∈ Region.ready md ops listed := by simpa using hr
      have hst : qOp P ops (Ge w0) k (wpSegs P ops loose Q l w0) a := by unfold qOp; simp only [h0]; exact h
      obtain ⟨v, hy, hK⟩ := yieldsIn_of_qOp h0 hst
      refine sAny_first h0 (Region.noSelect_spec hs) ops.size ?_ l.length listed w0 a hc (Region.free_spec h0 hf) hr' hy
        (sAny_of_segs hs l _ _ _ hl' (closed_set hc hr') hB' hK)
      simp only [Bool.or_eq_true, List.all_eq_true, List.mem_range] at hp
      rcases hp with hp | hp
      · exact .inl hp
      · refine .inr fun j hjs hlj hjk => ?_
        rcases hp j hjs with ((h1 | h1) | h1) | h1
        · simp [hlj] at h1
        · simp at h1; exact absurd h1 hjk
        · exact .inl h1
        · exact .inr h1
/-- a stretch of quiet operations, by the kit's own walk. -/
theorem segs_quiet {loose : Nat → Bool} {Q : World → Act → Prop} {w0 : World} {rest : List (Nat × Oper)} : ∀ (l : List (Nat × Oper)) (a : Act), (l.all fun p => !loose p.1) = true →
    wpQuiet P ops (Ge w0) (fun a' => wpSegs P ops loose Q rest w0 a') (l.map (·.2)) a → wpSegs P ops loose Q (l ++ rest) w0 a
  | [], _, _, h => h
  | (k, o) :: l, a, hl, h => by
    simp only [List.all_cons, Bool.and_eq_true, Bool.not_eq_true'] at hl
    show wpSegs P ops loose Q ((k, o) :: (l ++ rest)) w0 a
    unfold wpSegs
    simp only [hl.1, Bool.false_eq_true, if_false]
    rw [List.map_cons] at h
    unfold wpQuiet at h
    split
    · rename_i hw
      simp only [hw, if_true] at h
      exact Oper.quiet_mono (fun a' h' => segs_quiet l a' hl.2 h') h
    · rename_i hw
      simp only [hw] at h
      exact segs_quiet l _ hl.2 h
theorem segs_quiet_n {loose : Nat → Bool} {Q : World → Act → Prop} {w0 : World} {L : List (Nat × Oper)} {a : Act} (n : Nat) (hl : ((L.take n).all fun p => !loose p.1) = true)
    (h : wpQuiet P ops (fun w' => ∃ g : Aft w0, w' = g.w) (fun a' => wpSegs P ops loose Q (L.drop n) w0 a') ((L.take n).map (·.2)) a) : wpSegs P ops loose Q L w0 a := by
  have := segs_quiet (rest := L.drop n) (L.take n) a hl h
  rwa [List.take_append_drop] at this
/-- the last stretch. -/
theorem segs_last {loose : Nat → Bool} {Q : World → Act → Prop} {w0 : World} {L : List (Nat × Oper)} {a : Act} (hl : (L.all fun p => !loose p.1) = true)
    (h : wpQuiet P ops (fun w' => ∃ g : Aft w0, w' = g.w) (fun a' => Q w0 a') (L.map (·.2)) a) : wpSegs P ops loose Q L w0 a := by
  have := segs_quiet (Q := Q) (rest := []) L a hl h
  rwa [List.append_nil] at this
/-- a loose operation: it is met in whatever world has come by then. -/
theorem segs_loose {loose : Nat → Bool} {Q : World → Act → Prop} {w0 : World} {k : Nat} {o : Oper} {rest : List (Nat × Oper)} {a : Act} (hl : loose k = true) (hw : Region.wanted o (yielded ops a.tmps) = true)
    (h : ∀ g : Aft w0, looseAt P o a g.w fun a' w' => Ge g.w w' ∧ wpSegs P ops loose Q rest w' a') : wpSegs P ops loose Q ((k, o) :: rest) w0 a := by
  unfold wpSegs
  simp only [hl, hw, if_true]
  rintro w ⟨g, rfl⟩
  exact h g
theorem loose_call {a : Act} {dst : Option Tmp} {f : FuncId} {xs : Array Operand} {ats : Array TypeId} {ty : TypeId} {pos : String} {after : Array Edge} {guard : Option (Nat × Bool)} {w : World} {next : Act → World → Prop} {fn : Func}
    (hf : P.funcs[f]? = some fn) (hn : (fn.name == "runtime.NumGoroutine") = false) (hb : fn.body.isNone = false) (h : Calls P f (#[] ++ xs.map a.eval ++ #[]) w fun e w'' => ∃ v, e = .returned v ∧ next (a.put dst v) w'') :
    looseAt P { dst, op := .call { callee := .value (.func f), args := xs, argTypes := ats }, type := ty, pos, after, guard } a w next := by
  unfold looseAt
  rw [execOp_call_go]
  have e : (callFunc f (#[] ++ xs.map a.eval ++ #[])).run P w = .ok (.enter f (#[] ++ xs.map a.eval ++ #[])) w := by
    have hn' : ¬ fn.name = "runtime.NumGoroutine" := by simpa using hn
    have hb' : ¬ fn.body = none := by intro h0; rw [h0] at hb; simp at hb
    simp [callFunc, go_sem, hf, hn', hb']
  rw [e]
  exact h
theorem segs_skip {loose : Nat → Bool} {Q : World → Act → Prop} {w0 : World} {k : Nat} {o : Oper} {rest : List (Nat × Oper)} {a : Act} (hl : loose k = true) (hw : Region.wanted o (yielded ops a.tmps) = false)
    (h : wpSegs P ops loose Q rest w0 (a.put o.dst undef)) : wpSegs P ops loose Q ((k, o) :: rest) w0 a := by
  unfold wpSegs
  simp only [hl, hw, if_true, Bool.false_eq_true, if_false]
  exact h
/-- the region: its operations in an order of ours, cut where the loose ones stand. -/
theorem wp_region_segs {id : Nat} {Q : Exit → Act → World → Prop} {a : Act} {w : World} {l : List Oper} (loose ord : List Nat) (L : List (Nat × Oper)) (hm : P.follows .mixedOrders = true)
    (hs : Region.noSelect l.toArray = true) (hB : segsB .any l.toArray (fun k => loose.contains k) ord (Array.replicate l.length false) = true) (hL : (ord.filterMap fun k => (l[k]?).map fun o => (k, o)) = L) (hn : L.map (·.1) = ord) (hlen : L.length = l.length)
    (h : wpSegs P l.toArray (fun k => loose.contains k) (fun w0 a' => ∀ w', Ge w0 w' → Q .normal a' w') L w a) : (Code.region id l.toArray true).wp P Q a w := by
  refine wp_region_any hm ?_
  have hmem : ∀ p ∈ L, l.toArray[p.1]? = some p.2 := by
    intro p hp
    rw [← hL, List.mem_filterMap] at hp
    obtain ⟨k, _, hk⟩ := hp
    cases hlk : l[k]? with
    | none => simp [hlk] at hk
    | some o =>
      simp [hlk] at hk
      subst hk
      simpa using hlk
  have hc : Closed .any l.toArray (Array.replicate l.length false) := by
    intro k o _ hk
    simp [Array.getElem?_replicate] at hk
    split at hk <;> simp at hk
  have h1 := sAny_of_segs (md := .any) hs L (Array.replicate l.length false) w a hmem hc (by rw [hn]; exact hB) h
  have h2 := wpAny_of_s (Q' := Q) (fun w0 a w hw hq => hq w hw) L.length (Array.replicate l.length false) w a ({ w with drawn := w.drawn + 1 }) (Ge.of (Below.refl _ _).drew) h1
  rw [hlen] at h2
  simpa using h2
end
end Go.Proofs.YtaoagbnhomjkpaaGreat
