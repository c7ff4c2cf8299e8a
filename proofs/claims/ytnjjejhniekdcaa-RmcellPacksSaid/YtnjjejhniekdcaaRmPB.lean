/- What is unpacked is packed to what it was; a bit turned over is told. -/
import Derived.Test.YtnjjejhniekdcaaRmQ
namespace Go.Proofs.Ytnjjejhniekdcaa
set_option linter.unusedVariables false
set_option linter.unusedSimpArgs false
open Go.RowKit Crc
set_option maxRecDepth 100000
theorem bitAt_quarter {x y : Int} (h : x / 4 = y / 4) (m : Nat) (hm : m < 6) : bitAt x m = bitAt y m := by
  rw [← bitAt_high x 0 (by omega) (by omega) m hm, ← bitAt_high y 0 (by omega) (by omega) m hm, h]
theorem seal_congr {xs ys : List Int} (hx : xs.length = 48) (hy : ys.length = 48) (h : ∀ k, k < 46 → at0 xs k = at0 ys k) (h6 : at0 xs 46 / 4 = at0 ys 46 / 4) : sealZ xs = sealZ ys := by
  have hr : regZ xs = regZ ys := by
    unfold regZ
    congr 1
    apply List.ext_getElem?
    intro j
    by_cases hj : j < 374
    · rw [List.getElem?_take_of_lt hj, List.getElem?_take_of_lt hj, bitsL_at _ j (by omega), bitsL_at _ j (by omega)]
      unfold bitF
      by_cases h1 : j / 8 < 46
      · have := h _ h1
        unfold at0 at this
        rw [this]
      · have e : j / 8 = 46 := by omega
        unfold at0 at h6
        rw [e, bitAt_quarter h6 _ (by omega)]
    · rw [List.getElem?_eq_none (by simp; omega), List.getElem?_eq_none (by simp; omega)]
  apply List.ext_getElem?
  intro k
  by_cases hk : k < 48
  · have a := sealZ_at hx k
    have b := sealZ_at hy k
    have e : (sealZ xs)[k]?.getD 0 = (sealZ ys)[k]?.getD 0 := by
      rw [a, b]
      unfold regN at *
      rw [hr]
      unfold at0 at h h6
      split
      · rw [h6]
      · split
        · rfl
        · exact h k (by omega)
    rw [List.getElem?_eq_getElem (by rw [sealZ_len, hx]; omega), List.getElem?_eq_getElem (by rw [sealZ_len, hy]; omega)] at e ⊢
    simpa using e
  · rw [List.getElem?_eq_none (by rw [sealZ_len, hx]; omega), List.getElem?_eq_none (by rw [sealZ_len, hy]; omega)]
theorem flag_back {p : Int} (h0 : 0 ≤ p) (h1 : p < 256) (h8 : p % 8 = 0) : flagZ (decide (p / 128 % 2 = 1)) (decide (p / 64 % 2 = 1)) (decide (p / 32 % 2 = 1)) (decide (p / 16 % 2 = 1)) (decide (p / 8 % 2 = 1)) = p := by
  have e : ∀ (q d : Int), flg (decide (q % 2 = 1)) d = q % 2 * d := fun q d => by
    unfold flg
    by_cases hq : q % 2 = 1
    · rw [decide_eq_true hq, if_pos rfl, hq, Int.one_mul]
    · rw [decide_eq_false hq, if_neg (by decide), show q % 2 = 0 by omega, Int.zero_mul]
  unfold flagZ
  rw [e, e, e, e, e]
  omega
theorem unpack_back {ps : List Int} (hl : ps.length = 48) (hb : allB ps) (h : unE ps = 0) :
    rights (num2 ps 2) (num2 ps 4) (num2 ps 6) = true ∧ pkZ (flU ps 128) (flU ps 64) (flU ps 32) (flU ps 16) (flU ps 8) (num2 ps 2) (num2 ps 4) (num2 ps 6) (num4 ps 8) (num4 ps 12) = ps := by
  unfold unE at h
  have hs : sealZ ps = ps := by
    by_cases hs : sealZ ps = ps
    · exact hs
    · rw [if_neg hs] at h; exact absurd h (by decide)
  rw [if_pos hs] at h
  have h0 : at0 ps 0 = 1 := by
    by_cases h0 : at0 ps 0 = 1
    · exact h0
    · rw [if_neg h0] at h; exact absurd h (by decide)
  rw [if_pos h0] at h
  have hf : fixZ ps = true := by
    by_cases hf : fixZ ps = true
    · exact hf
    · rw [if_neg hf] at h; exact absurd h (by decide)
  rw [if_pos hf] at h
  have hr : rights (num2 ps 2) (num2 ps 4) (num2 ps 6) = true := by
    by_cases hr : rights (num2 ps 2) (num2 ps 4) (num2 ps 6) = true
    · exact hr
    · rw [if_neg hr] at h; exact absurd h (by decide)
  refine ⟨hr, ?_⟩
  unfold pkZ
  rw [if_pos hr]
  conv => rhs; rw [← hs]
  unfold fixZ at hf
  rw [Bool.and_eq_true, Bool.and_eq_true, decide_eq_true_eq, decide_eq_true_eq, allF_iff] at hf
  obtain ⟨hF, hf1, hf46⟩ := hf
  have bb := fun k => byte_B hb k
  have B1 := bb 1; have B2 := bb 2; have B3 := bb 3; have B4 := bb 4; have B5 := bb 5; have B6 := bb 6; have B7 := bb 7; have B8 := bb 8; have B9 := bb 9; have B10 := bb 10; have B11 := bb 11; have B12 := bb 12; have B13 := bb 13; have B14 := bb 14; have B15 := bb 15
  unfold isB at B1 B2 B3 B4 B5 B6 B7 B8 B9 B10 B11 B12 B13 B14 B15
  refine seal_congr (packZ_len ..) hl (fun k hk => ?_) ?_
  · by_cases h16 : 16 ≤ k
    · have := hF (k - 16) (by omega)
      rw [show 16 + (k - 16) = k by omega] at this
      unfold at0
      rw [this]
      have e : packZ (flU ps 128) (flU ps 64) (flU ps 32) (flU ps 16) (flU ps 8) (num2 ps 2) (num2 ps 4) (num2 ps 6) (num4 ps 8) (num4 ps 12) = ([1, flagZ (flU ps 128) (flU ps 64) (flU ps 32) (flU ps 16) (flU ps 8)] ++ be2 (num2 ps 2) ++ be2 (num2 ps 4) ++ be2 (num2 ps 6) ++ be4 (num4 ps 8) ++ be4 (num4 ps 12)) ++ (List.replicate 30 106 ++ [0, 0]) := by unfold packZ; rw [List.append_assoc]
      have e16 : ([1, flagZ (flU ps 128) (flU ps 64) (flU ps 32) (flU ps 16) (flU ps 8)] ++ be2 (num2 ps 2) ++ be2 (num2 ps 4) ++ be2 (num2 ps 6) ++ be4 (num4 ps 8) ++ be4 (num4 ps 12)).length = 16 := rfl
      rw [e, List.getElem?_append_right (by omega), e16, List.getElem?_append_left (by simp; omega), List.getElem?_replicate, if_pos (by omega)]; rfl
    · have hc : k = 0 ∨ k = 1 ∨ k = 2 ∨ k = 3 ∨ k = 4 ∨ k = 5 ∨ k = 6 ∨ k = 7 ∨ k = 8 ∨ k = 9 ∨ k = 10 ∨ k = 11 ∨ k = 12 ∨ k = 13 ∨ k = 14 ∨ k = 15 := by omega
      rcases hc with rfl | rfl | rfl | rfl | rfl | rfl | rfl | rfl | rfl | rfl | rfl | rfl | rfl | rfl | rfl | rfl
      · exact h0.symm
      · exact flag_back B1.1 B1.2 hf1
      · show num2 ps 2 / 256 % 256 = ps[2]?.getD 0; rw [show num2 ps 2 = ps[2]?.getD 0 * 256 + ps[3]?.getD 0 from rfl]; omega
      · show num2 ps 2 % 256 = ps[3]?.getD 0; rw [show num2 ps 2 = ps[2]?.getD 0 * 256 + ps[3]?.getD 0 from rfl]; omega
      · show num2 ps 4 / 256 % 256 = ps[4]?.getD 0; rw [show num2 ps 4 = ps[4]?.getD 0 * 256 + ps[5]?.getD 0 from rfl]; omega
      · show num2 ps 4 % 256 = ps[5]?.getD 0; rw [show num2 ps 4 = ps[4]?.getD 0 * 256 + ps[5]?.getD 0 from rfl]; omega
      · show num2 ps 6 / 256 % 256 = ps[6]?.getD 0; rw [show num2 ps 6 = ps[6]?.getD 0 * 256 + ps[7]?.getD 0 from rfl]; omega
      · show num2 ps 6 % 256 = ps[7]?.getD 0; rw [show num2 ps 6 = ps[6]?.getD 0 * 256 + ps[7]?.getD 0 from rfl]; omega
      · show num4 ps 8 / 16777216 % 256 = ps[8]?.getD 0; rw [show num4 ps 8 = ((ps[8]?.getD 0 * 256 + ps[9]?.getD 0) * 256 + ps[10]?.getD 0) * 256 + ps[11]?.getD 0 from rfl]; omega
      · show num4 ps 8 / 65536 % 256 = ps[9]?.getD 0; rw [show num4 ps 8 = ((ps[8]?.getD 0 * 256 + ps[9]?.getD 0) * 256 + ps[10]?.getD 0) * 256 + ps[11]?.getD 0 from rfl]; omega
      · show num4 ps 8 / 256 % 256 = ps[10]?.getD 0; rw [show num4 ps 8 = ((ps[8]?.getD 0 * 256 + ps[9]?.getD 0) * 256 + ps[10]?.getD 0) * 256 + ps[11]?.getD 0 from rfl]; omega
      · show num4 ps 8 % 256 = ps[11]?.getD 0; rw [show num4 ps 8 = ((ps[8]?.getD 0 * 256 + ps[9]?.getD 0) * 256 + ps[10]?.getD 0) * 256 + ps[11]?.getD 0 from rfl]; omega
      · show num4 ps 12 / 16777216 % 256 = ps[12]?.getD 0; rw [show num4 ps 12 = ((ps[12]?.getD 0 * 256 + ps[13]?.getD 0) * 256 + ps[14]?.getD 0) * 256 + ps[15]?.getD 0 from rfl]; omega
      · show num4 ps 12 / 65536 % 256 = ps[13]?.getD 0; rw [show num4 ps 12 = ((ps[12]?.getD 0 * 256 + ps[13]?.getD 0) * 256 + ps[14]?.getD 0) * 256 + ps[15]?.getD 0 from rfl]; omega
      · show num4 ps 12 / 256 % 256 = ps[14]?.getD 0; rw [show num4 ps 12 = ((ps[12]?.getD 0 * 256 + ps[13]?.getD 0) * 256 + ps[14]?.getD 0) * 256 + ps[15]?.getD 0 from rfl]; omega
      · show num4 ps 12 % 256 = ps[15]?.getD 0; rw [show num4 ps 12 = ((ps[12]?.getD 0 * 256 + ps[13]?.getD 0) * 256 + ps[14]?.getD 0) * 256 + ps[15]?.getD 0 from rfl]; omega
  · show (0 : Int) / 4 = _
    unfold at0
    rw [hf46]; rfl
theorem flip_burst {zs : List Int} (k : Nat) (hk : k < 8 * zs.length) : burstZ zs k 1 10 = flipZ zs k := by
  have e0 : burstZ zs k 1 0 = zs := rfl
  have e1 : burstZ zs k 1 1 = flipZ zs k := by
    show (if _ then _ else _) = _
    rw [decide_eq_true (show k + 0 < 8 * zs.length by omega)]; rfl
  have step : ∀ n, 1 ≤ n → burstZ zs k 1 (n + 1) = burstZ zs k 1 n := fun n hn => by
    show (if _ then _ else _) = _
    have : Nat.testBit 1 n = false := by
      rw [Nat.testBit_eq_decide_div_mod_eq]
      have : 1 / 2 ^ n = 0 := Nat.div_eq_of_lt (Nat.one_lt_two_pow (by omega))
      rw [this]; rfl
    rw [this]; rfl
  rw [step 9 (by omega), step 8 (by omega), step 7 (by omega), step 6 (by omega), step 5 (by omega), step 4 (by omega), step 3 (by omega), step 2 (by omega), step 1 (by omega), e1]
theorem flip_unsealed {zs : List Int} (hl : zs.length = 48) (hb : allB zs) (hs : sealZ zs = zs) {k : Nat} (hk : k < 384) : decide (sealZ (flipZ zs k) = flipZ zs k) = false := by
  have h := seal_burst hl hb hs k 1 (by omega)
  rw [flip_burst k (by omega)] at h
  refine decide_eq_false fun e => ?_
  have h1 := h.1 e
  have h2 : burstC 384 k 1 10 = true := (burstC_iff 384 k 1 10).2 ⟨0, by omega, by decide, by omega⟩
  rw [h1] at h2
  cases h2
end Go.Proofs.Ytnjjejhniekdcaa
