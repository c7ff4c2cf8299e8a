/- The walks of the layer 'rate' and of its reference: what each function tells, of every argument. -/
import Derived.Test.YtpkfaempgibfaaaKit
import Derived.Test.YtpkfaempgibfaaaRateM
namespace Go.Proofs.Ytpkfaempgibfaaa
open Go.RowKit
theorem u16_and_bit (c : Nat) (h : c < 65536) : bits .and .u16 (c : Int) 16384 = ((c / 16384 % 2 * 16384 : Nat) : Int) := by
  have h1 := u16_and_nat c 16384 h (by decide)
  have h2 := nat_bit 14 c
  rw [show (2 : Nat) ^ 14 = 16384 from rfl] at h2
  rw [h2] at h1
  exact h1
theorem u16_and_31 (c : Int) (h0 : 0 ≤ c) (h : c < 65536) : bits .and .u16 c 31 = c % 32 := 
  bits_mask .u16 16 (by decide) (fun n h0 h1 => by rw [IntKind.wrap_u16]; omega) 5 (by decide) c h0 (by omega)
theorem scl_wrap (c : Nat) (h : ¬ c / 16384 % 2 = 0) : wrap64 ((512 + (c : Int) % 512) * 2 ^ (c / 512 % 32)) = (scl c : Int) := by
  have h1 := scl_le c
  have h2 : ((512 + (c : Int) % 512) * 2 ^ (c / 512 % 32)) = (scl c : Int) := by
    unfold scl; rw [if_neg h]; rw [Int.natCast_mul, Int.natCast_add, Int.natCast_emod, Int.natCast_pow]; rfl
  rw [h2]; unfold wrap64; omega
theorem scaled_any (c : Nat) (w : World) (h1 : c < 65536) :
    Calls Try.prog 19 #[.int .u16 (c : Int)] w fun e w' => e = .returned (.int .i64 (scl c : Nat)) ∧ w = w' := by
  have H1 := u16_and_bit c h1
  have H2 := u16_and_31 ((c : Int) / 512) (by omega) (by omega)
  go_enter Try.func19, Try.ntmps19
  by_cases h : c / 16384 % 2 = 0
  · go_wp2
    go_ret
    exact ⟨ret_int (by simp [scl, h]), rfl⟩
  · have h' : ((c : Int) / 16384 % 2 * 16384 == 0) = false := by simp; omega
    go_wp2
    go_ret
    exact ⟨ret_int (scl_wrap c h), rfl⟩
theorem code_no (n : Int) (w : World) (hn : n < 1) :
    Calls Try.prog 24 #[.int .i64 n] w fun e w' => e = .returned (.int .u16 ((0 : Nat) : Int)) ∧ w = w' := by
  go_enter Try.func24, Try.ntmps24
  go_wp2
  go_step3
  go_wp2
  rw [Exit.noGoto_ret]
  go_ret
  exact ⟨ret_int (by omega), rfl⟩
theorem code_yes (n : Nat) (w : World) (hn : 1 ≤ n) (hn1 : n ≤ 9223372036854775807) :
    Calls Try.prog 24 #[.int .i64 (n : Int)] w fun e w' => e = .returned (.int .u16 (cod n : Nat)) ∧ w = w' := by
  go_enter Try.func24, Try.ntmps24
  go_wp2
  go_step3
  go_wp2
  go_step3
  go_wp2
  go_loop [3] (fun e => ∃ k : Nat, k ≤ 31 ∧ 2 ^ k ≤ n ∧ e = .int .i64 k) (fun e => 31 - (intOf e).toNat)
  case atStart => exact ⟨0, by omega, by omega, rfl⟩
  case round =>
    obtain ⟨k, hk, hp, rfl⟩ := hrel
    have hq := int_div_pow n k
    by_cases hx : k = 31 ∨ n / 2 ^ k < 2
    · obtain ⟨m, hm⟩ : ∃ m, m = min n 8589934592 := ⟨_, rfl⟩
      have hif : (if (8589934592 : Int) < (n : Int) then (8589934592 : Int) else (n : Int)) = (m : Int) := by subst hm; split <;> omega
      have hm1 : m ≤ 8589934592 := by omega
      have HM := Lib.hid hm
      have HC := Lib.hid (codE_of hk hp hx)
      have HQ := Lib.hid hq
      clear hq hm
      have HF := Lib.hid (show (m : Int) * 512 / 2 ^ k = ((m * 512 / 2 ^ k : Nat) : Int) from int_div_pow (m * 512) k)
      have hF : (m : Int) * 512 / (2 : Int) ^ k ≤ (m : Int) * 512 := Int.ediv_le_self (a := (m : Int) * 512) ((2 : Int) ^ k) (by omega)
      have hF0 : 0 ≤ (m : Int) * 512 / (2 : Int) ^ k := Int.ediv_nonneg (by omega) (Int.pow_nonneg (by omega))
      by_cases hlt : k < 31
      all_goals
        have hz : k < 31 → (n : Int) / 2 ^ k < 2 := fun h => by have := HQ.out; omega
        first | have hz := hz hlt | clear hz
        by_cases hm : (m : Int) * 512 / (2 : Int) ^ k ≤ 1023
        all_goals
          go_wp2
          try rw [Exit.noGoto_ret]
          go_ret
          refine ⟨ret_int ?_, rfl⟩
          go_light
          unfold cod
          rw [← HC.out, ← HM.out]
          try rw [IntKind.wrap_u16]
          try unfold wrap64
          revert hm hF hF0
          rw [HF.out]
          generalize m * 512 / 2 ^ k = q
          intro hF0 hF hm
          omega
    · have hl : k < 31 := by omega
      have h2 : 2 ≤ (n : Int) / 2 ^ k := by omega
      clear hq
      go_wp2
      go_round
      case rel => 
        refine ⟨k + 1, by omega, ?_, by go_num⟩
        have : 2 ≤ n / 2 ^ k := by omega
        rw [Nat.le_div_iff_mul_le (Nat.two_pow_pos k)] at this
        rw [Nat.pow_succ]; omega
      case measure => simp [intOf]; omega
theorem right_any (c : Nat) (w : World) (h1 : c < 65536) :
    Calls Try.prog 17 #[.int .u16 (c : Int)] w fun e w' => e = .returned (.bool (rgt c)) ∧ w = w' := by
  go_enter Try.func17, Try.ntmps17
  go_wp2
  all_goals
    go_ret
    refine ⟨ret_bool ?_, rfl⟩
    rw [Bool.eq_iff_iff]; simp [rgt_iff]; omega
theorem refRight_any (c : Nat) (w : World) (h1 : c < 65536) :
    Calls Try.prog 18 #[.int .i64 (c : Int)] w fun e w' => e = .returned (.bool (rgt c)) ∧ w = w' := by
  go_enter Try.func18, Try.ntmps18
  go_wp2
  all_goals
    go_ret
    refine ⟨ret_bool ?_, rfl⟩
    rw [Bool.eq_iff_iff]; simp [rgt_iff]; omega
theorem value_any (c : Nat) (w : World) (h1 : c < 65536) :
    Calls Try.prog 21 #[.int .u16 (c : Int)] w fun e w' => e = .returned (.int .i64 (scl c / 512 : Nat)) ∧ w = w' := by
  have := scl_le c
  go_enter Try.func21, Try.ntmps21
  go_wp2_with (go_at_call 19; refine (scaled_any _ _ h1).mono ?_; rintro e w' ⟨rfl, rfl⟩)
  go_ret
  exact ⟨ret_int (by omega), rfl⟩
theorem step_any (c : Nat) (w : World) (h1 : c < 65536) :
    Calls Try.prog 22 #[.int .u16 (c : Int)] w fun e w' => e = .returned (.int .i64 (stp c : Nat)) ∧ w = w' := by
  have h := scl_le c
  go_enter Try.func22, Try.ntmps22
  by_cases hz : scl c = 0
  · go_wp2_with (go_at_call 19; refine (scaled_any _ _ h1).mono ?_; rintro e w' ⟨rfl, rfl⟩)
    go_ret
    exact ⟨ret_int (by simp [stp, hz]), rfl⟩
  · have hz' : 1 ≤ (scl c : Int) := by omega
    have hq : ((536870912 + (scl c : Int) - 1) / (scl c : Int)) = (stp c : Int) := by
      unfold stp; rw [if_neg hz, Int.natCast_ediv]; congr 1; omega
    have hq1 : (stp c : Int) ≤ 536870912 + (scl c : Int) - 1 := by rw [← hq]; exact Int.ediv_le_self _ (by omega)
    have hq0 : 0 ≤ (stp c : Int) := by omega
    go_wp2_with (go_at_call 19; refine (scaled_any _ _ h1).mono ?_; rintro e w' ⟨rfl, rfl⟩)
    go_ret
    exact ⟨ret_int hq, rfl⟩
theorem refScaled_any (c : Nat) (w : World) (h1 : c < 65536) :
    Calls Try.prog 20 #[.int .i64 (c : Int)] w fun e w' => e = .returned (.int .i64 (scl c : Nat)) ∧ w = w' := by
  go_enter Try.func20, Try.ntmps20
  by_cases h : c / 16384 % 2 = 0
  · go_wp2
    go_ret
    exact ⟨ret_int (by simp [scl, h]), rfl⟩
  · obtain ⟨E, hE⟩ : ∃ E, E = c / 512 % 32 := ⟨_, rfl⟩
    have hE' : (c : Int) / 512 % 32 = (E : Int) := by omega
    have hE1 : E ≤ 31 := by omega
    have HE := Lib.hid hE
    clear hE
    go_wp2
    go_loop [3, 4] (fun n e => ∃ j N : Nat, j ≤ E ∧ Hid (N = (512 + c % 512) * 2 ^ j) ∧ N < 2199023255552 ∧ n = .int .i64 (N : Int) ∧ e = .int .i64 ((E - j : Nat) : Int)) (fun _ e => (intOf e).toNat)
    case atStart => exact ⟨0, 512 + c % 512, by omega, Lib.hid (by omega), by omega, by go_num, by go_num⟩
    case round =>
      obtain ⟨j, N, hj, HN, hN, rfl, rfl⟩ := hrel
      by_cases hlt : j < E
      · have hp : 2 ^ (j + 1) ≤ 2 ^ 31 := Nat.pow_le_pow_right (by omega) (by omega)
        have hp2 : (512 + c % 512) * 2 ^ (j + 1) ≤ 1023 * 2 ^ 31 := Nat.mul_le_mul (by omega) hp
        rw [Nat.pow_succ, ← Nat.mul_assoc, ← HN.out] at hp2
        clear hp
        go_wp2
        go_round
        case rel => exact ⟨j + 1, N * 2, by omega, Lib.hid (by rw [Nat.pow_succ, ← Nat.mul_assoc, ← HN.out]), by omega, by go_num, by go_num⟩
        case measure => simp [intOf]; omega
      · go_wp2
        go_ret
        exact ⟨ret_int (by unfold scl; rw [if_neg h, ← HE.out, show E = j by omega, ← HN.out]), rfl⟩
theorem step_meas (k q s : Nat) (hs : 1 ≤ s) (hk : k * s < 536870912) : 536870912 - (k + max 1 q) * s < 536870912 - k * s := by
  rw [Nat.add_mul]
  have : 1 ≤ max 1 q * s := Nat.mul_pos (by omega) hs
  omega
theorem step_toNat (k q : Nat) {x : Int} (h : x = (k : Int) + (max 1 q : Nat)) : x.toNat = k + max 1 q := by omega
theorem stp_of (c k s : Nat) (hS : s = scl c) (hs : 1 ≤ s) (h1 : k = 0 ∨ k * s < 536870912 + s) (h2 : 536870912 ≤ k * s) : k = stp c := by
  unfold stp
  rw [← hS, if_neg (by omega)]
  refine (Nat.div_eq_of_lt_le ?_ ?_).symm
  · rcases h1 with rfl | h1 <;> omega
  · rw [Nat.add_mul]; omega
theorem refStep_any (c : Nat) (w : World) (h1 : c < 65536) :
    Calls Try.prog 23 #[.int .i64 (c : Int)] w fun e w' => e = .returned (.int .i64 (stp c : Nat)) ∧ w = w' := by
  have hs := scl_le c
  go_enter Try.func23, Try.ntmps23
  by_cases hz : scl c = 0
  · go_wp2_with (go_at_call 20; refine (refScaled_any _ _ h1).mono ?_; rintro e w' ⟨rfl, rfl⟩)
    go_ret
    exact ⟨ret_int (by simp [stp, hz]), rfl⟩
  · obtain ⟨s, hS⟩ : ∃ s, s = scl c := ⟨_, rfl⟩
    have HS := Lib.hid hS
    have hz' : 1 ≤ s := by omega
    have hz'' : (1 : Int) ≤ (s : Int) := by omega
    have hs' : s < 2199023255552 := by omega
    have hC : Calls Try.prog 20 #[.int .i64 (c : Int)] w fun e w' => e = .returned (.int .i64 (s : Int)) ∧ w = w' := by rw [hS]; exact refScaled_any _ _ h1
    clear hS hs hz
    go_wp2_with (go_at_call 20; refine hC.mono ?_; rintro e w' ⟨rfl, rfl⟩)
    clear hC
    go_loop [4] (fun v => ∃ k : Nat, (k = 0 ∨ k * s < 536870912 + s) ∧ v = .int .i64 k) (fun v => 536870912 - (intOf v).toNat * s)
    case atStart => exact ⟨0, by omega, by go_num⟩
    case round =>
      obtain ⟨k, hk, rfl⟩ := hrel
      have hb : (k : Int) * (s : Int) < 2200000000000 := by
        have : ((k * s : Nat) : Int) = (k : Int) * s := by push_cast; rfl
        rcases hk with rfl | hk <;> omega
      have hb0 : 0 ≤ (k : Int) * (s : Int) := Int.mul_nonneg (by omega) (by omega)
      by_cases hlt : (k : Int) * (s : Int) < 536870912
      · obtain ⟨q, hq⟩ : ∃ q : Nat, (536870912 - (k : Int) * (s : Int)) / (s : Int) = (q : Int) := ⟨((536870912 - (k : Int) * (s : Int)) / (s : Int)).toNat, by rw [Int.toNat_of_nonneg (Int.ediv_nonneg (by omega) (by omega))]⟩
        have hq1 : (q : Int) ≤ 536870912 - (k : Int) * (s : Int) := by rw [← hq]; exact Int.ediv_le_self _ (by omega)
        have hqs : (q : Int) * (s : Int) ≤ 536870912 - (k : Int) * (s : Int) := by rw [← hq]; exact Int.ediv_mul_le _ (by omega)
        have hk5 : (k : Int) ≤ 536870912 := by
          have := Int.mul_le_mul_of_nonneg_left hz'' (by omega : 0 ≤ (k : Int))
          omega
        by_cases hq2 : 1 < q
        all_goals
          go_wp2
          go_round
          case rel => 
            refine ⟨k + max 1 q, .inr ?_, by go_num⟩
            go_light
            have e1 : (((k + max 1 q) * s : Nat) : Int) = (k : Int) * s + ((max 1 q : Nat) : Int) * s := by push_cast; rw [Int.add_mul]
            have e2 : ((max 1 q : Nat) : Int) * s ≤ 536870912 - (k : Int) * s ∨ (max 1 q) = 1 := by
              by_cases h : 1 ≤ q
              · left; rw [Nat.max_eq_right h]; exact hqs
              · right; omega
            rcases e2 with e2 | e2
            · omega
            · rw [e2] at e1 ⊢; omega
          case measure => 
            go_light
            have e1 := Int.natCast_mul k s
            have := step_meas k q s hz' (by omega)
            simp only [intOf]
            rw [step_toNat k q (by omega)]
            exact this
      · go_wp2
        go_ret
        refine ⟨ret_int ?_, rfl⟩
        go_light
        rw [stp_of c k s HS.out hz' hk (by have e1 := Int.natCast_mul k s; omega)]
theorem refCode_any (n : Int) (w : World) (h0 : -9223372036854775808 ≤ n) (h1 : n ≤ 9223372036854775807) :
    Calls Try.prog 25 #[.int .i64 n] w fun e w' => e = .returned (.int .i64 (codI n : Nat)) ∧ w = w' := by
  go_enter Try.func25, Try.ntmps25
  by_cases hn : n < 1
  · go_wp2
    go_ret
    exact ⟨ret_int (by simp [codI, hn]), rfl⟩
  · obtain ⟨m, hm⟩ : ∃ m : Nat, m = min n.toNat 1099511627776 := ⟨_, rfl⟩
    have hif : (if (1099511627776 : Int) < n then (1099511627776 : Int) else n) = (m : Int) := by subst hm; split <;> omega
    have hm1 : (1 : Int) ≤ (m : Int) := by omega
    have hm2 : (m : Int) ≤ 1099511627776 := by omega
    have HM := Lib.hid hm
    clear hm
    go_wp2
    go_loop [3, 4] (fun u v => ∃ lo hi : Nat, 16384 ≤ lo ∧ lo ≤ hi ∧ hi ≤ 32767 ∧ scl lo ≤ 512 * m ∧ (hi < 32767 → 512 * m < scl (hi + 1)) ∧ u = .int .i64 lo ∧ v = .int .i64 hi) (fun u v => (intOf v).toNat - (intOf u).toNat)
    case atStart => exact ⟨16384, 32767, by omega, by omega, by omega, by rw [scl_low]; omega, by omega, rfl, rfl⟩
    case round =>
      obtain ⟨lo, hi, a1, a2, a3, a4, a5, rfl, rfl⟩ := hrel
      by_cases hlt : lo < hi
      · have hmid : ((lo : Int) + (hi : Int) + 1) / 2 = (((lo + hi + 1) / 2 : Nat) : Int) := by omega
        obtain ⟨mid, hmd⟩ : ∃ mid, mid = (lo + hi + 1) / 2 := ⟨_, rfl⟩
        rw [← hmd] at hmid
        have hs := scl_le mid
        have b1 : lo < mid := by omega
        have b2 : mid ≤ hi := by omega
        have HMD := Lib.hid hmd
        clear hmd
        by_cases hx : scl mid ≤ 512 * m
        all_goals
          have H5 := Lib.hid a5
          clear a5
          go_wp2_with (go_at_call 20; refine (refScaled_any mid _ (by omega)).mono ?_; rintro e w' ⟨rfl, rfl⟩)
          go_round
          case rel =>
            first
              | exact ⟨mid, hi, by omega, by omega, by omega, by omega, H5.out, rfl, rfl⟩
              | exact ⟨lo, mid - 1, by omega, by omega, by omega, by omega, fun _ => by rw [show mid - 1 + 1 = mid by omega]; omega, rfl, by go_num⟩
          case measure => have := HMD.out; simp [intOf]; omega
      · go_wp2
        go_ret
        exact ⟨ret_int (by rw [codI_of (by omega) HM.out a1 a2 a3 a4 a5 hlt]), rfl⟩
theorem code_any (n : Int) (w : World) (h0 : -9223372036854775808 ≤ n) (h1 : n ≤ 9223372036854775807) :
    Calls Try.prog 24 #[.int .i64 n] w fun e w' => e = .returned (.int .u16 (codI n : Nat)) ∧ w = w' := by
  by_cases hn : n < 1
  · rw [show codI n = 0 by simp [codI, hn]]
    exact code_no n w hn
  · obtain ⟨m, rfl⟩ : ∃ m : Nat, n = m := ⟨n.toNat, by omega⟩
    rw [show codI (m : Int) = cod m by simp [codI, hn]]
    exact code_yes m w (by omega) (by omega)
theorem scaled_int (x : Int) (w : World) (h0 : 0 ≤ x) (h1 : x < 65536) :
    Calls Try.prog 19 #[.int .u16 x] w fun e w' => e = .returned (.int .i64 (sclZ x)) ∧ w = w' := by
  unfold sclZ
  obtain ⟨c, rfl⟩ : ∃ c : Nat, x = c := ⟨x.toNat, by omega⟩
  exact scaled_any c w (by omega)
theorem right_int (x : Int) (w : World) (h0 : 0 ≤ x) (h1 : x < 65536) :
    Calls Try.prog 17 #[.int .u16 x] w fun e w' => e = .returned (.bool (rgtZ x)) ∧ w = w' := by
  unfold rgtZ
  obtain ⟨c, rfl⟩ : ∃ c : Nat, x = c := ⟨x.toNat, by omega⟩
  exact right_any c w (by omega)
theorem value_int (x : Int) (w : World) (h0 : 0 ≤ x) (h1 : x < 65536) :
    Calls Try.prog 21 #[.int .u16 x] w fun e w' => e = .returned (.int .i64 (valZ x)) ∧ w = w' := by
  unfold valZ
  obtain ⟨c, rfl⟩ : ∃ c : Nat, x = c := ⟨x.toNat, by omega⟩
  exact value_any c w (by omega)
theorem step_int (x : Int) (w : World) (h0 : 0 ≤ x) (h1 : x < 65536) :
    Calls Try.prog 22 #[.int .u16 x] w fun e w' => e = .returned (.int .i64 (stpZ x)) ∧ w = w' := by
  unfold stpZ
  obtain ⟨c, rfl⟩ : ∃ c : Nat, x = c := ⟨x.toNat, by omega⟩
  exact step_any c w (by omega)
theorem refScaled_int (x : Int) (w : World) (h0 : 0 ≤ x) (h1 : x < 65536) :
    Calls Try.prog 20 #[.int .i64 x] w fun e w' => e = .returned (.int .i64 (sclZ x)) ∧ w = w' := by
  unfold sclZ
  obtain ⟨c, rfl⟩ : ∃ c : Nat, x = c := ⟨x.toNat, by omega⟩
  exact refScaled_any c w (by omega)
theorem refRight_int (x : Int) (w : World) (h0 : 0 ≤ x) (h1 : x < 65536) :
    Calls Try.prog 18 #[.int .i64 x] w fun e w' => e = .returned (.bool (rgtZ x)) ∧ w = w' := by
  unfold rgtZ
  obtain ⟨c, rfl⟩ : ∃ c : Nat, x = c := ⟨x.toNat, by omega⟩
  exact refRight_any c w (by omega)
theorem refStep_int (x : Int) (w : World) (h0 : 0 ≤ x) (h1 : x < 65536) :
    Calls Try.prog 23 #[.int .i64 x] w fun e w' => e = .returned (.int .i64 (stpZ x)) ∧ w = w' := by
  unfold stpZ
  obtain ⟨c, rfl⟩ : ∃ c : Nat, x = c := ⟨x.toNat, by omega⟩
  exact refStep_any c w (by omega)
theorem code_int (n : Int) (w : World) (h0 : -9223372036854775808 ≤ n) (h1 : n ≤ 9223372036854775807) :
    Calls Try.prog 24 #[.int .i64 n] w fun e w' => e = .returned (.int .u16 (codZ n)) ∧ w = w' := by
  unfold codZ
  exact code_any n w h0 h1
theorem refCode_int (n : Int) (w : World) (h0 : -9223372036854775808 ≤ n) (h1 : n ≤ 9223372036854775807) :
    Calls Try.prog 25 #[.int .i64 n] w fun e w' => e = .returned (.int .i64 (codZ n)) ∧ w = w' := by
  unfold codZ
  exact refCode_any n w h0 h1
end Go.Proofs.Ytpkfaempgibfaaa
