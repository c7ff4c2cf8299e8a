/- The walks of the layer 'rate' and of its reference: what each function tells, of every argument. -/
import Derived.Test.YtnjjejhniekdcaaKit
import Derived.Test.YtnjjejhniekdcaaRateM
namespace Go.Proofs.Ytnjjejhniekdcaa
open Go.RowKit
theorem u16_and_bit (c : Nat) (h : c < 65536) : bits .and .u16 (c : Int) 16384 = ((c / 16384 % 2 * 16384 : Nat) : Int) := by
  have h1 := u16_and_nat c 16384 h (by decide)
  have h2 := nat_bit 14 c
  rw [show (2 : Nat) ^ 14 = 16384 from rfl] at h2
  rw [h2] at h1
  exact h1
theorem u16_and_31 (c : Int) (h0 : 0 ≤ c) (h : c < 65536) : bits .and .u16 c 31 = c % 32 := 
  bits_mask .u16 16 (by decide) (fun n h0 h1 => by rw [IntKind.wrap_u16]; omega) 5 (by decide) c h0 (by omega)
theorem scl_wrap (c : Nat) (h : ¬ c / 16384 % 2 = 0) : wrap64 ((512 + (c : Int) % 512) * 2 ^ (c / 512 % 32)) = (scl c : Int) := by
  have h1 := scl_le c
  have h2 : ((512 + (c : Int) % 512) * 2 ^ (c / 512 % 32)) = (scl c : Int) := by
    unfold scl; rw [if_neg h]; rw [Int.natCast_mul, Int.natCast_add, Int.natCast_emod, Int.natCast_pow]; rfl
  rw [h2]; unfold wrap64; omega
theorem scaled_any (c : Nat) (w : World) (h1 : c < 65536) :
    Calls Try.prog 21 #[.int .u16 (c : Int)] w fun e w' => e = .returned (.int .i64 (scl c : Nat)) ∧ w = w' := by
  have H1 := u16_and_bit c h1
  have H2 := u16_and_31 ((c : Int) / 512) (by omega) (by omega)
  go_enter Try.func21, Try.ntmps21
  by_cases h : c / 16384 % 2 = 0
  · go_wp2
    go_ret
    exact ⟨ret_int (by simp [scl, h]), rfl⟩
  · have h' : ((c : Int) / 16384 % 2 * 16384 == 0) = false := by simp; omega
    go_wp2
    go_ret
    exact ⟨ret_int (scl_wrap c h), rfl⟩
theorem right_any (c : Nat) (w : World) (h1 : c < 65536) :
    Calls Try.prog 19 #[.int .u16 (c : Int)] w fun e w' => e = .returned (.bool (rgt c)) ∧ w = w' := by
  go_enter Try.func19, Try.ntmps19
  go_wp2
  all_goals
    go_ret
    refine ⟨ret_bool ?_, rfl⟩
    rw [Bool.eq_iff_iff]; simp [rgt_iff]; omega
theorem refRight_any (c : Nat) (w : World) (h1 : c < 65536) :
    Calls Try.prog 28 #[.int .i64 (c : Int)] w fun e w' => e = .returned (.bool (rgt c)) ∧ w = w' := by
  go_enter Try.func28, Try.ntmps28
  go_wp2
  all_goals
    go_ret
    refine ⟨ret_bool ?_, rfl⟩
    rw [Bool.eq_iff_iff]; simp [rgt_iff]; omega
theorem refScaled_any (c : Nat) (w : World) (h1 : c < 65536) :
    Calls Try.prog 36 #[.int .i64 (c : Int)] w fun e w' => e = .returned (.int .i64 (scl c : Nat)) ∧ w = w' := by
  go_enter Try.func36, Try.ntmps36
  by_cases h : c / 16384 % 2 = 0
  · go_wp2
    go_ret
    exact ⟨ret_int (by simp [scl, h]), rfl⟩
  · obtain ⟨E, hE⟩ : ∃ E, E = c / 512 % 32 := ⟨_, rfl⟩
    have hE' : (c : Int) / 512 % 32 = (E : Int) := by omega
    have hE1 : E ≤ 31 := by omega
    have HE := Lib.hid hE
    clear hE
    go_wp2
    go_loop [3, 4] (fun n e => ∃ j N : Nat, j ≤ E ∧ Hid (N = (512 + c % 512) * 2 ^ j) ∧ N < 2199023255552 ∧ n = .int .i64 (N : Int) ∧ e = .int .i64 ((E - j : Nat) : Int)) (fun _ e => (intOf e).toNat)
    case atStart => exact ⟨0, 512 + c % 512, by omega, Lib.hid (by omega), by omega, by go_num, by go_num⟩
    case round =>
      obtain ⟨j, N, hj, HN, hN, rfl, rfl⟩ := hrel
      by_cases hlt : j < E
      · have hp : 2 ^ (j + 1) ≤ 2 ^ 31 := Nat.pow_le_pow_right (by omega) (by omega)
        have hp2 : (512 + c % 512) * 2 ^ (j + 1) ≤ 1023 * 2 ^ 31 := Nat.mul_le_mul (by omega) hp
        rw [Nat.pow_succ, ← Nat.mul_assoc, ← HN.out] at hp2
        clear hp
        go_wp2
        go_round
        case rel => exact ⟨j + 1, N * 2, by omega, Lib.hid (by rw [Nat.pow_succ, ← Nat.mul_assoc, ← HN.out]), by omega, by go_num, by go_num⟩
        case measure => simp [intOf]; omega
      · go_wp2
        go_ret
        exact ⟨ret_int (by unfold scl; rw [if_neg h, ← HE.out, show E = j by omega, ← HN.out]), rfl⟩
theorem step_meas (k q s : Nat) (hs : 1 ≤ s) (hk : k * s < 536870912) : 536870912 - (k + max 1 q) * s < 536870912 - k * s := by
  rw [Nat.add_mul]
  have : 1 ≤ max 1 q * s := Nat.mul_pos (by omega) hs
  omega
theorem step_toNat (k q : Nat) {x : Int} (h : x = (k : Int) + (max 1 q : Nat)) : x.toNat = k + max 1 q := by omega
theorem stp_of (c k s : Nat) (hS : s = scl c) (hs : 1 ≤ s) (h1 : k = 0 ∨ k * s < 536870912 + s) (h2 : 536870912 ≤ k * s) : k = stp c := by
  unfold stp
  rw [← hS, if_neg (by omega)]
  refine (Nat.div_eq_of_lt_le ?_ ?_).symm
  · rcases h1 with rfl | h1 <;> omega
  · rw [Nat.add_mul]; omega
theorem scaled_int (x : Int) (w : World) (h0 : 0 ≤ x) (h1 : x < 65536) :
    Calls Try.prog 21 #[.int .u16 x] w fun e w' => e = .returned (.int .i64 (sclZ x)) ∧ w = w' := by
  unfold sclZ
  obtain ⟨c, rfl⟩ : ∃ c : Nat, x = c := ⟨x.toNat, by omega⟩
  exact scaled_any c w (by omega)
theorem right_int (x : Int) (w : World) (h0 : 0 ≤ x) (h1 : x < 65536) :
    Calls Try.prog 19 #[.int .u16 x] w fun e w' => e = .returned (.bool (rgtZ x)) ∧ w = w' := by
  unfold rgtZ
  obtain ⟨c, rfl⟩ : ∃ c : Nat, x = c := ⟨x.toNat, by omega⟩
  exact right_any c w (by omega)
theorem refScaled_int (x : Int) (w : World) (h0 : 0 ≤ x) (h1 : x < 65536) :
    Calls Try.prog 36 #[.int .i64 x] w fun e w' => e = .returned (.int .i64 (sclZ x)) ∧ w = w' := by
  unfold sclZ
  obtain ⟨c, rfl⟩ : ∃ c : Nat, x = c := ⟨x.toNat, by omega⟩
  exact refScaled_any c w (by omega)
theorem refRight_int (x : Int) (w : World) (h0 : 0 ≤ x) (h1 : x < 65536) :
    Calls Try.prog 28 #[.int .i64 x] w fun e w' => e = .returned (.bool (rgtZ x)) ∧ w = w' := by
  unfold rgtZ
  obtain ⟨c, rfl⟩ : ∃ c : Nat, x = c := ⟨x.toNat, by omega⟩
  exact refRight_any c w (by omega)
end Go.Proofs.Ytnjjejhniekdcaa
