/- The walks of rmcell.code and Next, and of the reference's Next. -/
import Derived.Test.YtnjjejhniekdcaaRmA2
namespace Go.Proofs.Ytnjjejhniekdcaa
set_option linter.unusedVariables false
set_option linter.unusedSimpArgs false
open Go.RowKit
set_option maxRecDepth 100000
set_option maxHeartbeats 4000000
theorem sclZ_mono {a b : Int} (h1 : 16384 ≤ a) (h2 : a ≤ b) (h3 : b ≤ 32767) : sclZ a ≤ sclZ b := by
  unfold sclZ
  have := scl_mono (a := a.toNat) (b := b.toNat) (by omega) (by omega) (by omega)
  omega
theorem sclZ_lt {a b : Int} (h1 : 16384 ≤ a) (h2 : a < b) (h3 : b ≤ 32767) : sclZ a < sclZ b := by
  unfold sclZ
  have := scl_lt (a := a.toNat) (b := b.toNat) (by omega) (by omega) (by omega)
  omega
theorem sclZ_low : sclZ 16384 = 512 := by kernel_rfl
/-- the greatest code whose rate, 512 times, is not above a number. -/
def IsCode (n c : Int) : Prop := (n < 512 ∧ c = 0) ∨ (512 ≤ n ∧ 16384 ≤ c ∧ c ≤ 32767 ∧ sclZ c ≤ n ∧ (c < 32767 → n < sclZ (c + 1)))
theorem code_ex (n : Int) : ∃ c, IsCode n c := by
  by_cases h : n < 512
  · exact ⟨0, .inl ⟨h, rfl⟩⟩
  · have key : ∀ k : Nat, k ≤ 16383 → ∃ c : Int, 16384 ≤ c ∧ c ≤ 16384 + k ∧ sclZ c ≤ n ∧ (c < 16384 + k → n < sclZ (c + 1)) := fun k => by
      induction k with
      | zero => intro _; exact ⟨16384, by omega, by omega, by rw [sclZ_low]; omega, by omega⟩
      | succ k ih =>
        intro hk
        obtain ⟨c, h1, h2, h3, h4⟩ := ih (by omega)
        by_cases hc : c < 16384 + k
        · exact ⟨c, h1, by omega, h3, fun _ => h4 hc⟩
        · by_cases hs : sclZ (c + 1) ≤ n
          · exact ⟨c + 1, by omega, by omega, hs, fun hh => by omega⟩
          · exact ⟨c, h1, by omega, h3, fun _ => by omega⟩
    obtain ⟨c, h1, h2, h3, h4⟩ := key 16383 (by omega)
    exact ⟨c, .inr ⟨by omega, h1, by omega, h3, fun hc => h4 (by omega)⟩⟩
theorem wrap16' {x : Int} (h0 : 0 ≤ x) (h1 : x < 65536) : IntKind.u16.wrap x = x := by
  have e : IntKind.u16.wrap x = x % 65536 := by simp [IntKind.wrap, IntKind.bits, IntKind.signed]
  rw [e]; omega
theorem code_is (n c : Int) (h : IsCode n c) (w : World) :
    Calls Try.prog 35 #[.int .i64 n] w fun e w' => e = .returned (.int .u16 c) ∧ w = w' := by
  rcases h with ⟨h1, rfl⟩ | ⟨h1, h2, h3, h4, h5⟩
  · go_enter Try.func35, Try.ntmps35
    go_wp2
    go_ret
    exact ⟨rfl, rfl⟩
  · have h0 : ¬ n < 512 := by omega
    have H5 := Lib.hid h5
    clear h5
    go_enter Try.func35, Try.ntmps35
    go_wp2
    go_loop [3, 4] (fun u v => ∃ lo hi : Int, 16384 ≤ lo ∧ lo ≤ c ∧ c ≤ hi ∧ hi ≤ 32767 ∧ u = .int .u16 lo ∧ v = .int .u16 hi) (fun u v => (intOf v).toNat - (intOf u).toNat)
    case atStart => exact ⟨16384, 32767, by omega, by omega, by omega, by omega, rfl, rfl⟩
    case round =>
      obtain ⟨lo, hi, a1, a2, a3, a4, rfl, rfl⟩ := hrel
      by_cases hlt : lo < hi
      · obtain ⟨d, hd⟩ : ∃ d, (hi - lo + 1) / 2 = d := ⟨_, rfl⟩
        have d1 : 1 ≤ d := by omega
        have d2 : lo + d ≤ hi := by omega
        have b0 : 0 ≤ lo + d := by omega
        have b3 : lo + d < 65536 := by omega
        have hs := sclZ_b (lo + d)
        have w1 : IntKind.u16.wrap ((hi - lo + 1).tdiv 2) = d := by
          rw [Int.tdiv_eq_ediv_of_nonneg (by omega), hd]; exact wrap16' (by omega) (by omega)
        have w2 : IntKind.u16.wrap (lo + d) = lo + d := wrap16' (by omega) (by omega)
        clear hd
        by_cases hx : sclZ (lo + d) ≤ n
        · have hc : lo + d ≤ c := by
            by_cases hc : lo + d ≤ c
            · exact hc
            · have := H5.out (by omega)
              have := sclZ_mono (a := c + 1) (b := lo + d) (by omega) (by omega) (by omega)
              omega
          go_wp2_with (go_at_call 21; (with_reducible refine (scaled_int (lo + d) _ b0 b3).mono ?_); rintro e w' ⟨rfl, rfl⟩)
          go_round
          case rel => exact ⟨lo + d, hi, by omega, hc, a3, a4, rfl, rfl⟩
          case measure => simp [intOf]; omega
        · have hc : c ≤ lo + d - 1 := by
            by_cases hc : c ≤ lo + d - 1
            · exact hc
            · have := sclZ_mono (a := lo + d) (b := c) (by omega) (by omega) (by omega)
              omega
          go_wp2_with (go_at_call 21; (with_reducible refine (scaled_int (lo + d) _ b0 b3).mono ?_); rintro e w' ⟨rfl, rfl⟩)
          go_round
          case rel => exact ⟨lo, lo + d - 1, a1, a2, hc, by omega, rfl, by go_num⟩
          case measure => simp [intOf]; omega
      · go_wp2
        go_ret
        exact ⟨ret_int (by omega), rfl⟩
theorem is_of {a b c : Int} (h : IsCode a c) (e : b = a) : IsCode b c := e ▸ h
def next1 (n p : Int) (ci ni : Bool) : Int := if ci then n - n / 16 else if ni then n else n + p / 16
def nextN (now peak floor er : Int) (ci ni : Bool) : Int := max (min (min (next1 (sclZ now) (sclZ peak) ci ni) (sclZ er)) (sclZ peak)) (sclZ floor)
theorem next_is (bk nr ci ni ra : Bool) (er cc mc ql sn now peak floor c : Int) (w : World) (n0 : 0 ≤ now) (n1 : now < 65536) (p0 : 0 ≤ peak) (p1 : peak < 65536) (f0 : 0 ≤ floor) (f1 : floor < 65536) (e0 : 0 ≤ er) (e1 : er < 65536) (hc : Hid (IsCode (nextN now peak floor er ci ni) c)) :
    Calls Try.prog 20 #[.int .u16 now, .int .u16 peak, .int .u16 floor, .agg (rmV bk nr ci ni ra er cc mc ql sn).toArray] w fun e w' => e = .returned (.int .u16 c) ∧ Below w.heap.size w w' := by
  obtain ⟨sn', hsn⟩ : ∃ x, sclZ now = x := ⟨_, rfl⟩
  obtain ⟨sp, hsp⟩ : ∃ x, sclZ peak = x := ⟨_, rfl⟩
  obtain ⟨sf, hsf⟩ : ∃ x, sclZ floor = x := ⟨_, rfl⟩
  obtain ⟨se, hse⟩ : ∃ x, sclZ er = x := ⟨_, rfl⟩
  have b1 := sclZ_b now; have b2 := sclZ_b peak; have b3 := sclZ_b floor; have b4 := sclZ_b er
  rw [hsn] at b1; rw [hsp] at b2; rw [hsf] at b3; rw [hse] at b4
  have HSN := Lib.hid hsn; have HSP := Lib.hid hsp; have HSF := Lib.hid hsf; have HSE := Lib.hid hse
  have hN : Hid (IsCode (max (min (min (next1 sn' sp ci ni) se) sp) sf) c) := by
    have := hc.out
    unfold nextN at this
    rw [hsn, hsp, hsf, hse] at this
    exact this
  clear hsn hsp hsf hse hc
  cases ci <;> cases ni
  all_goals
    go_enter Try.func20, Try.ntmps20
    go_wp2_with (first | (go_at_call 21; (with_reducible refine (scaled_int now _ n0 n1).mono ?_); rw [HSN.out]; rintro e w' ⟨rfl, rfl⟩) | (go_at_call 21; (with_reducible refine (scaled_int peak _ p0 p1).mono ?_); rw [HSP.out]; rintro e w' ⟨rfl, rfl⟩) | (go_at_call 21; (with_reducible refine (scaled_int floor _ f0 f1).mono ?_); rw [HSF.out]; rintro e w' ⟨rfl, rfl⟩) | (go_at_call 21; (with_reducible refine (scaled_int er _ e0 e1).mono ?_); rw [HSE.out]; rintro e w' ⟨rfl, rfl⟩))
    all_goals
      refine (code_is _ c (is_of hN.out ?_) _).mono ?_
      · unfold next1
        simp only [Bool.false_eq_true, ↓reduceIte]
        omega
      · rintro e w' ⟨rfl, rfl⟩
        go_wp2
        go_ret
        exact ⟨rfl, by (repeat' (first | (with_reducible exact Below.refl _ _) | (with_reducible assumption) | (with_reducible refine below_drewN ?_ _) | (with_reducible refine Below.drew ?_) | ((with_reducible refine Below.alloc ?_ ?_ _); (rotate_left; focus (first | omega | (simp; done) | (simp; omega)))) | ((with_reducible refine Below.setCell ?_ ?_ _); (rotate_left; focus (first | omega | (simp; done) | (simp; omega)))) | (with_reducible refine Below.grown ?_ (by assumption) (by first | omega | (simp; omega)) (by simp [Value.ownBlock]; try omega)) | (with_reducible refine below_then ?_ (Aft.below _)) | (with_reducible apply below_then; rotate_left; assumption)))⟩
theorem refNext_is (bk nr ci ni ra : Bool) (er cc mc ql sn now peak floor c : Int) (w : World) (n0 : 0 ≤ now) (n1 : now < 65536) (p0 : 0 ≤ peak) (p1 : peak < 65536) (f0 : 0 ≤ floor) (f1 : floor < 65536) (e0 : 0 ≤ er) (e1 : er < 65536) (hc : Hid (IsCode (nextN now peak floor er ci ni) c)) :
    Calls Try.prog 23 #[.int .u16 now, .int .u16 peak, .int .u16 floor, .agg (rmV bk nr ci ni ra er cc mc ql sn).toArray] w fun e w' => e = .returned (.int .i64 c) ∧ Below w.heap.size w w' := by
  obtain ⟨sn', hsn⟩ : ∃ x, sclZ now = x := ⟨_, rfl⟩
  obtain ⟨sp, hsp⟩ : ∃ x, sclZ peak = x := ⟨_, rfl⟩
  obtain ⟨sf, hsf⟩ : ∃ x, sclZ floor = x := ⟨_, rfl⟩
  obtain ⟨se, hse⟩ : ∃ x, sclZ er = x := ⟨_, rfl⟩
  have b1 := sclZ_b now; have b2 := sclZ_b peak; have b3 := sclZ_b floor; have b4 := sclZ_b er
  rw [hsn] at b1; rw [hsp] at b2; rw [hsf] at b3; rw [hse] at b4
  have HSN := Lib.hid hsn; have HSP := Lib.hid hsp; have HSF := Lib.hid hsf; have HSE := Lib.hid hse
  have hN : Hid (IsCode (max (min (min (next1 sn' sp ci ni) se) sp) sf) c) := by
    have := hc.out
    unfold nextN at this
    rw [hsn, hsp, hsf, hse] at this
    exact this
  clear hsn hsp hsf hse hc
  obtain ⟨a, ha⟩ : ∃ a, next1 sn' sp ci ni = a := ⟨_, rfl⟩
  obtain ⟨m1, hm1⟩ : ∃ m, (if se < a then se else a) = m := ⟨_, rfl⟩
  obtain ⟨m2, hm2⟩ : ∃ m, (if sp < m1 then sp else m1) = m := ⟨_, rfl⟩
  obtain ⟨N, hmx⟩ : ∃ m, (if m2 < sf then sf else m2) = m := ⟨_, rfl⟩
  have hNN : Hid (IsCode N c) := by
    refine is_of hN.out ?_
    rw [ha]
    omega
  have hNb : 0 ≤ N ∧ N ≤ 5000000000000 := by
    unfold next1 at ha
    cases ci <;> cases ni <;> simp only [Bool.false_eq_true, ↓reduceIte] at ha <;> omega
  have hab : -5000000000000 ≤ a ∧ a ≤ 5000000000000 := by
    unfold next1 at ha
    cases ci <;> cases ni <;> simp only [Bool.false_eq_true, ↓reduceIte] at ha <;> omega
  clear hN
  cases ci <;> cases ni
  all_goals
    unfold next1 at ha
    simp only [Bool.false_eq_true, ↓reduceIte] at ha
    first | (subst ha) | skip
    rcases hNN.out with ⟨g1, rfl⟩ | ⟨g1, g2, g3, g4, g5⟩
    · clear hNN
      go_enter Try.func23, Try.ntmps23
      go_wp2_with (first | (go_at_call 36; (with_reducible refine (refScaled_int now _ n0 n1).mono ?_); rw [HSN.out]; rintro e w' ⟨rfl, rfl⟩) | (go_at_call 36; (with_reducible refine (refScaled_int peak _ p0 p1).mono ?_); rw [HSP.out]; rintro e w' ⟨rfl, rfl⟩) | (go_at_call 36; (with_reducible refine (refScaled_int floor _ f0 f1).mono ?_); rw [HSF.out]; rintro e w' ⟨rfl, rfl⟩) | (go_at_call 36; (with_reducible refine (refScaled_int er _ e0 e1).mono ?_); rw [HSE.out]; rintro e w' ⟨rfl, rfl⟩))
      go_ret
      exact ⟨rfl, by (repeat' (first | (with_reducible exact Below.refl _ _) | (with_reducible assumption) | (with_reducible refine below_drewN ?_ _) | (with_reducible refine Below.drew ?_) | ((with_reducible refine Below.alloc ?_ ?_ _); (rotate_left; focus (first | omega | (simp; done) | (simp; omega)))) | ((with_reducible refine Below.setCell ?_ ?_ _); (rotate_left; focus (first | omega | (simp; done) | (simp; omega)))) | (with_reducible refine Below.grown ?_ (by assumption) (by first | omega | (simp; omega)) (by simp [Value.ownBlock]; try omega)) | (with_reducible refine below_then ?_ (Aft.below _)) | (with_reducible apply below_then; rotate_left; assumption)))⟩
    · have H5 := Lib.hid g5
      clear g5 hNN
      go_enter Try.func23, Try.ntmps23
      go_wp2_with (first | (go_at_call 36; (with_reducible refine (refScaled_int now _ n0 n1).mono ?_); rw [HSN.out]; rintro e w' ⟨rfl, rfl⟩) | (go_at_call 36; (with_reducible refine (refScaled_int peak _ p0 p1).mono ?_); rw [HSP.out]; rintro e w' ⟨rfl, rfl⟩) | (go_at_call 36; (with_reducible refine (refScaled_int floor _ f0 f1).mono ?_); rw [HSF.out]; rintro e w' ⟨rfl, rfl⟩) | (go_at_call 36; (with_reducible refine (refScaled_int er _ e0 e1).mono ?_); rw [HSE.out]; rintro e w' ⟨rfl, rfl⟩))
      go_loop [12, 13] (fun u v => ∃ lo hi : Int, 16384 ≤ lo ∧ lo ≤ c ∧ c ≤ hi ∧ hi ≤ 32767 ∧ u = .int .i64 lo ∧ v = .int .i64 hi) (fun u v => (intOf v).toNat - (intOf u).toNat)
      case atStart => exact ⟨16384, 32767, by omega, by omega, by omega, by omega, rfl, rfl⟩
      case round =>
        obtain ⟨lo, hi, a1, a2, a3, a4, rfl, rfl⟩ := hrel
        clear hm1 hm2 hmx
        by_cases hlt : lo < hi
        · obtain ⟨mid, hm⟩ : ∃ mid, (lo + hi + 1) / 2 = mid := ⟨_, rfl⟩
          have d1 : lo < mid := by omega
          have d2 : mid ≤ hi := by omega
          have b0 : 0 ≤ mid := by omega
          have b3 : mid < 65536 := by omega
          have hs := sclZ_b mid
          by_cases hx : sclZ mid ≤ N
          · have hc : mid ≤ c := by
              by_cases hc : mid ≤ c
              · exact hc
              · have := H5.out (by omega)
                have := sclZ_mono (a := c + 1) (b := mid) (by omega) (by omega) (by omega)
                omega
            go_wp2_with (go_at_call 36; (with_reducible refine (refScaled_int mid _ b0 b3).mono ?_); rintro e w' ⟨rfl, rfl⟩)
            go_round
            case rel => exact ⟨mid, hi, by omega, hc, a3, a4, rfl, rfl⟩
            case measure => simp [intOf]; omega
          · have hc : c ≤ mid - 1 := by
              by_cases hc : c ≤ mid - 1
              · exact hc
              · have := sclZ_mono (a := mid) (b := c) (by omega) (by omega) (by omega)
                omega
            go_wp2_with (go_at_call 36; (with_reducible refine (refScaled_int mid _ b0 b3).mono ?_); rintro e w' ⟨rfl, rfl⟩)
            go_round
            case rel => exact ⟨lo, mid - 1, a1, a2, hc, by omega, rfl, by go_num⟩
            case measure => simp [intOf]; omega
        · go_wp2
          go_ret
          exact ⟨ret_int (by omega), by (repeat' (first | (with_reducible exact Below.refl _ _) | (with_reducible assumption) | (with_reducible refine below_drewN ?_ _) | (with_reducible refine Below.drew ?_) | ((with_reducible refine Below.alloc ?_ ?_ _); (rotate_left; focus (first | omega | (simp; done) | (simp; omega)))) | ((with_reducible refine Below.setCell ?_ ?_ _); (rotate_left; focus (first | omega | (simp; done) | (simp; omega)))) | (with_reducible refine Below.grown ?_ (by assumption) (by first | omega | (simp; omega)) (by simp [Value.ownBlock]; try omega)) | (with_reducible refine below_then ?_ (Aft.below _)) | (with_reducible apply below_then; rotate_left; assumption)))⟩
end Go.Proofs.Ytnjjejhniekdcaa
