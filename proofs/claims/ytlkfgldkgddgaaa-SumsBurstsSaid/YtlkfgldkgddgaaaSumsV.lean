/- The walk of the law SumsBursts. -/
import Derived.Test.YtlkfgldkgddgaaaSumsL
import Derived.Test.YtlkfgldkgddgaaaSumsU
namespace Go.Proofs.Ytlkfgldkgddgaaa
set_option linter.unusedVariables false
set_option linter.unusedSimpArgs false
open Go.RowKit
set_option maxRecDepth 100000
set_option maxHeartbeats 4000000
theorem own_nil {w : World} {base : Nat} {a : Option Addr} {n c : Nat} {zs : List Int} (h : OwnB w base (.slice a n c) n zs) (ha : a = none) : c = 0 := by
  subst ha
  rcases h.1.2 with ⟨h1, _⟩ | ⟨g, cap, cur, h1, _⟩
  · injection h1
  · cases h1
theorem wraps64u (n : Int) (h₀ : 0 ≤ n) (h₁ : n < 2 ^ 64) : IntKind.u64.wrap n = n := by rw [IntKind.wrap_u64]; omega
theorem testBit_u64 (b i : Nat) (hb : b < 4294967296) : (bits BinOp.and IntKind.u64 ((b : Int) / 2 ^ i) 1 == 1) = b.testBit i := by
  have h2 : (0 : Int) ≤ (b : Int) / 2 ^ i := Int.ediv_nonneg (by omega) (Int.pow_nonneg (by omega))
  have h3 : (b : Int) / 2 ^ i ≤ b := Int.ediv_le_self _ (by omega)
  rw [show bits BinOp.and IntKind.u64 ((b : Int) / 2 ^ i) 1 = (b : Int) / 2 ^ i % 2 from bits_mask .u64 64 (by decide) wraps64u 1 (by decide) _ h2 (by omega)]
  rw [Nat.testBit_eq_decide_div_mod_eq, int_div_pow]
  have e : ((b / 2 ^ i : Nat) : Int) % 2 = ((b / 2 ^ i % 2 : Nat) : Int) := by omega
  rw [e, Bool.eq_iff_iff]
  generalize b / 2 ^ i % 2 = q
  simp only [beq_iff_eq, decide_eq_true_eq]
  omega
theorem burst_any {w : World} {a : Option Addr} {len cap : Nat} {zs : List Int} (h : BytesAt w a len zs) (hnone : a = none → cap = 0) (hp : 0 < len) (hlen : len ≤ 300) (at' b n p : Nat) (ha : at' < 18446744073709551616) (hb : b < 4294967296) (hn : n ≤ 32) (hpp : p = at' % (8 * len)) :
    Calls Try.prog 27 #[.slice a len cap, .int .u64 (at' : Int), .int .u64 (b : Int), .int .i64 (n : Int)] w fun e w' => ∃ g c, e = .returned (.tuple #[.slice g len c, .bool (burstC (8 * len) p b n)]) ∧ BytesAt w' g len (burstZ zs p b n) ∧ Below w.heap.size w w' := by
  go_enter Try.func27, Try.ntmps27
  go_wp2_with (at_builtin; refine wpList_append_bytes rfl _ _ rfl (v := .slice (some ⟨w.heap.size, 0, none⟩) 0 0) rfl (own_empty w) rfl (h.below ?hb1) hnone ?hb2 ?hb3 ?_; (case hb1 => (repeat' (first | (with_reducible exact Below.refl _ _) | (with_reducible assumption) | (with_reducible refine below_drewN ?_ _) | (with_reducible refine Below.drew ?_) | ((with_reducible refine Below.alloc ?_ ?_ _); (rotate_left; focus (first | omega | (simp; done) | (simp; omega)))) | ((with_reducible refine Below.setCell ?_ ?_ _); (rotate_left; focus (first | omega | (simp; done) | (simp; omega)))) | (with_reducible refine Below.grown ?_ (by assumption) (by first | omega | (simp; omega)) (by simp [Value.ownBlock]; try omega)) | (with_reducible refine below_then ?_ (Aft.below _)) | (with_reducible apply below_then; rotate_left; assumption)))); (case hb2 => omega); (case hb3 => (simp; done)); intro v2 w2 hown hgr; simp only [Nat.zero_add, List.nil_append] at hown; obtain ⟨a2, c2, rfl, hc1, hc2, hB2, hF, hN⟩ := hown.at (by omega))
  have L0 : Below w.heap.size w w2 := by
    have h1 : Below w.heap.size w (w.alloc (.cells #[] 5)) := by (repeat' (first | (with_reducible exact Below.refl _ _) | (with_reducible assumption) | (with_reducible refine below_drewN ?_ _) | (with_reducible refine Below.drew ?_) | ((with_reducible refine Below.alloc ?_ ?_ _); (rotate_left; focus (first | omega | (simp; done) | (simp; omega)))) | ((with_reducible refine Below.setCell ?_ ?_ _); (rotate_left; focus (first | omega | (simp; done) | (simp; omega)))) | (with_reducible refine Below.grown ?_ (by assumption) (by first | omega | (simp; omega)) (by simp [Value.ownBlock]; try omega)) | (with_reducible refine below_then ?_ (Aft.below _)) | (with_reducible apply below_then; rotate_left; assumption)))
    exact h1.trans (hgr.mono (by omega))
  have hN0 : a2 = none → c2 = 0 := own_nil hown
  clear hown hF hN hgr
  go_loopw [10, 11, 12, 13, 18] (fun s10 s11 s12 s13 s18 wr => ∃ (i : Nat) (ao : Option Addr) (co : Nat), i ≤ n ∧ s18 = .int .i64 i ∧ s10 = .slice ao len co ∧ s11 = .bool (burstC (8 * len) p b i) ∧ (ao = none → co = 0) ∧ BytesAt wr ao len (burstZ zs p b i) ∧ Below w.heap.size w wr) (fun s10 s11 s12 s13 s18 wr => n - (intOf s18).toNat)
  case atStart => exact ⟨0, a2, c2, by omega, rfl, rfl, rfl, hN0, hB2, L0⟩
  case round =>
    obtain ⟨i, ao, co, hi, rfl, rfl, rfl, hno, hBo, hBw⟩ := hrel
    by_cases hlt : i < n
    · have hpl : p < 8 * len := by rw [hpp]; exact Nat.mod_lt _ (by omega)
      have hr : (at' : Int) % (8 * (len : Int)) = (p : Int) := by rw [hpp]; push_cast; rfl
      have HPP := Lib.hid hpp
      clear hpp
      cases ht : b.testBit i
      · have hbt : (bits BinOp.and IntKind.u64 ((b : Int) / 2 ^ i) 1 == 1) = false := by rw [testBit_u64 _ _ hb, ht]
        have hbc : burstC (8 * len) p b (i + 1) = burstC (8 * len) p b i := by show (if _ then _ else _) = _; rw [ht]; rfl
        have hbz : burstZ zs p b (i + 1) = burstZ zs p b i := by show (if _ then _ else _) = _; rw [ht]; rfl
        go_wp2
        go_roundw
        case rel =>
          go_light
          exact ⟨i + 1, ao, co, by omega, by go_num, rfl, by rw [hbc], hno, by rw [hbz]; exact hBo, hBw⟩
        case measure => go_light; simp [intOf]; omega
      · have hbt : (bits BinOp.and IntKind.u64 ((b : Int) / 2 ^ i) 1 == 1) = true := by rw [testBit_u64 _ _ hb, ht]
        by_cases hk : p + i < 8 * len
        · have hk2 : (p : Int) + (i : Int) < 8 * (len : Int) := by omega
          have hbc : burstC (8 * len) p b (i + 1) = true := by show (if _ then _ else _) = _; rw [ht, decide_eq_true hk]; rfl
          have hbz : burstZ zs p b (i + 1) = flipZ (burstZ zs p b i) (p + i) := by show (if _ then _ else _) = _; rw [ht, decide_eq_true (by rw [h.length]; exact hk)]; rfl
          go_wp2_with (go_at_call 17; (with_reducible refine (flip_any hBo hno (p + i) hk _ ?hfi).mono ?_); (case hfi => push_cast; rfl); rintro e w3 ⟨g3, c3, rfl, hg3, hcl3, hcm3, hB3, hb_w3⟩)
          go_roundw
          case rel =>
            go_light
            exact ⟨i + 1, some ⟨g3, 0, none⟩, c3, by omega, by go_num, rfl, by rw [hbc], (fun h => nomatch h), by rw [hbz]; exact hB3, by (repeat' (first | (with_reducible exact Below.refl _ _) | (with_reducible assumption) | (with_reducible refine below_drewN ?_ _) | (with_reducible refine Below.drew ?_) | ((with_reducible refine Below.alloc ?_ ?_ _); (rotate_left; focus (first | omega | (simp; done) | (simp; omega)))) | ((with_reducible refine Below.setCell ?_ ?_ _); (rotate_left; focus (first | omega | (simp; done) | (simp; omega)))) | (with_reducible refine Below.grown ?_ (by assumption) (by first | omega | (simp; omega)) (by simp [Value.ownBlock]; try omega)) | (with_reducible refine below_then ?_ (Aft.below _)) | (with_reducible apply below_then; rotate_left; assumption)))⟩
          case measure => go_light; simp [intOf]; omega
        · have hk2 : ¬ (p : Int) + (i : Int) < 8 * (len : Int) := by omega
          have hbc : burstC (8 * len) p b (i + 1) = burstC (8 * len) p b i := by show (if _ then _ else _) = _; rw [decide_eq_false hk, Bool.and_false]; rfl
          have hbz : burstZ zs p b (i + 1) = burstZ zs p b i := by show (if _ then _ else _) = _; rw [decide_eq_false (by rw [h.length]; exact hk), Bool.and_false]; rfl
          go_wp2
          go_roundw
          case rel =>
            go_light
            exact ⟨i + 1, ao, co, by omega, by go_num, rfl, by rw [hbc], hno, by rw [hbz]; exact hBo, hBw⟩
          case measure => go_light; simp [intOf]; omega
    · obtain rfl : i = n := by omega
      go_wp2
      go_ret2
      go_light
      exact ⟨ao, co, rfl, hBo, hBw⟩
theorem burst_lit {w : World} {a : Option Addr} {len cap : Nat} {zs : List Int} (h : BytesAt w a len zs) (hnone : a = none → cap = 0) (hp : 0 < len) (hlen : len ≤ 300) (at' b n p : Nat) (ni : Int) (hni : ni = (n : Int)) (ha : at' < 18446744073709551616) (hb : b < 4294967296) (hn : n ≤ 32) (hpp : p = at' % (8 * len)) :
    Calls Try.prog 27 #[.slice a len cap, .int .u64 (at' : Int), .int .u64 (b : Int), .int .i64 ni] w fun e w' => ∃ g c, e = .returned (.tuple #[.slice g len c, .bool (burstC (8 * len) p b n)]) ∧ BytesAt w' g len (burstZ zs p b n) ∧ Below w.heap.size w w' := by
  subst hni; exact burst_any h hnone hp hlen at' b n p ha hb hn hpp
theorem sumsBursts_go (a : Option Addr) (len cap : Nat) (xs : List Int) (at' b : Nat) (w : World) (HX : BytesAt w a len xs) (hna : a = none → cap = 0) (hp : 0 < len) (hlen : len ≤ 300) (ha : at' < 18446744073709551616) (hb : b < 4294967296) :
    Calls Try.prog 5 #[.slice a len cap, .int .u64 (at' : Int), .int .u32 (b : Int)] w fun e w' => e = .returned (.bool true) ∧ Below w.heap.size w w' := by
  have hl : decide ((300 : Int) < len) = false := by simp; omega
  have hl2 : ((len : Int) == 0) = false := by simp; omega
  have hl3 : (len == 0) = false := by simp; omega
  obtain ⟨p, hpp⟩ : ∃ p, p = at' % (8 * len) := ⟨_, rfl⟩
  have hple : p ≤ 8 * xs.length := by rw [hpp, HX.length]; exact Nat.le_of_lt (Nat.mod_lt _ (by omega))
  have q8 := e8_burst (allB_of HX.byte) p b hple
  have q10 := t10_burst (allB_of HX.byte) p b hple
  have q32 := l32_burst (allB_of HX.byte) p b hple
  rw [HX.length] at q8 q10 q32
  have HPP := Lib.hid hpp
  clear hpp hple
  go_enter Try.func5, Try.ntmps5
  go_wp2_with (first | (go_at_call 15; refine (awake01 _).mono ?_; rintro e wa ⟨rfl, hb_wa⟩; obtain ⟨hc_wa, hf_wa⟩ := bcell hb_wa; have hs_wa := hb_wa.size; (try simp at hs_wa); (try have h1_wa : w.heap.size < wa.heap.size := by omega); (try have h3_wa : w.heap.size < wa.heap.size + 1 := by omega); (try have h4_wa : w.heap.size < wa.heap.size + 1 + 1 := by omega); (try have h5_wa : ¬ w.heap.size = wa.heap.size := by omega)) | (go_at_call 27; (with_reducible refine (burst_lit (HX.below ?hb1) hna hp hlen at' b 8 p 8 rfl ha hb (by decide) HPP.out).mono ?_); (case hb1 => (repeat' (first | (with_reducible exact Below.refl _ _) | (with_reducible assumption) | (with_reducible refine below_drewN ?_ _) | (with_reducible refine Below.drew ?_) | ((with_reducible refine Below.alloc ?_ ?_ _); (rotate_left; focus (first | omega | (simp; done) | (simp; omega)))) | ((with_reducible refine Below.setCell ?_ ?_ _); (rotate_left; focus (first | omega | (simp; done) | (simp; omega)))) | (with_reducible refine Below.grown ?_ (by assumption) (by first | omega | (simp; omega)) (by simp [Value.ownBlock]; try omega)) | (with_reducible refine below_then ?_ (Aft.below _)) | (with_reducible apply below_then; rotate_left; assumption)))); rintro e w1 ⟨g1, c1, rfl, hB1, hb_w1⟩; have hs_w1 := hb_w1.size; (try simp at hs_w1)) | (go_at_call 27; (with_reducible refine (burst_lit (HX.below ?hb2) hna hp hlen at' b 10 p 10 rfl ha hb (by decide) HPP.out).mono ?_); (case hb2 => (repeat' (first | (with_reducible exact Below.refl _ _) | (with_reducible assumption) | (with_reducible refine below_drewN ?_ _) | (with_reducible refine Below.drew ?_) | ((with_reducible refine Below.alloc ?_ ?_ _); (rotate_left; focus (first | omega | (simp; done) | (simp; omega)))) | ((with_reducible refine Below.setCell ?_ ?_ _); (rotate_left; focus (first | omega | (simp; done) | (simp; omega)))) | (with_reducible refine Below.grown ?_ (by assumption) (by first | omega | (simp; omega)) (by simp [Value.ownBlock]; try omega)) | (with_reducible refine below_then ?_ (Aft.below _)) | (with_reducible apply below_then; rotate_left; assumption)))); rintro e w2 ⟨g2, c2, rfl, hB2, hb_w2⟩; have hs_w2 := hb_w2.size; (try simp at hs_w2)) | (go_at_call 27; (with_reducible refine (burst_lit (HX.below ?hb3) hna hp hlen at' b 32 p 32 rfl ha hb (by decide) HPP.out).mono ?_); (case hb3 => (repeat' (first | (with_reducible exact Below.refl _ _) | (with_reducible assumption) | (with_reducible refine below_drewN ?_ _) | (with_reducible refine Below.drew ?_) | ((with_reducible refine Below.alloc ?_ ?_ _); (rotate_left; focus (first | omega | (simp; done) | (simp; omega)))) | ((with_reducible refine Below.setCell ?_ ?_ _); (rotate_left; focus (first | omega | (simp; done) | (simp; omega)))) | (with_reducible refine Below.grown ?_ (by assumption) (by first | omega | (simp; omega)) (by simp [Value.ownBlock]; try omega)) | (with_reducible refine below_then ?_ (Aft.below _)) | (with_reducible apply below_then; rotate_left; assumption)))); rintro e w3 ⟨g3, c3, rfl, hB3, hb_w3⟩; have hs_w3 := hb_w3.size; (try simp at hs_w3)) | (go_at_call 16; (with_reducible refine (eight_at (hB1.below ?hz1)).mono ?_); (case hz1 => (repeat' (first | (with_reducible exact Below.refl _ _) | (with_reducible assumption) | (with_reducible refine below_drewN ?_ _) | (with_reducible refine Below.drew ?_) | ((with_reducible refine Below.alloc ?_ ?_ _); (rotate_left; focus (first | omega | (simp; done) | (simp; omega)))) | ((with_reducible refine Below.setCell ?_ ?_ _); (rotate_left; focus (first | omega | (simp; done) | (simp; omega)))) | (with_reducible refine Below.grown ?_ (by assumption) (by first | omega | (simp; omega)) (by simp [Value.ownBlock]; try omega)) | (with_reducible refine below_then ?_ (Aft.below _)) | (with_reducible apply below_then; rotate_left; assumption)))); rintro e v1 ⟨rfl, hb_v1⟩; have hs_v1 := hb_v1.size; (try simp at hs_v1)) | (go_at_call 16; (with_reducible refine (eight_at (HX.below ?hz2)).mono ?_); (case hz2 => (repeat' (first | (with_reducible exact Below.refl _ _) | (with_reducible assumption) | (with_reducible refine below_drewN ?_ _) | (with_reducible refine Below.drew ?_) | ((with_reducible refine Below.alloc ?_ ?_ _); (rotate_left; focus (first | omega | (simp; done) | (simp; omega)))) | ((with_reducible refine Below.setCell ?_ ?_ _); (rotate_left; focus (first | omega | (simp; done) | (simp; omega)))) | (with_reducible refine Below.grown ?_ (by assumption) (by first | omega | (simp; omega)) (by simp [Value.ownBlock]; try omega)) | (with_reducible refine below_then ?_ (Aft.below _)) | (with_reducible apply below_then; rotate_left; assumption)))); rintro e v2 ⟨rfl, hb_v2⟩; have hs_v2 := hb_v2.size; (try simp at hs_v2)) | (go_at_call 22; (with_reducible refine (ten_at (hB2.below ?hz3)).mono ?_); (case hz3 => (repeat' (first | (with_reducible exact Below.refl _ _) | (with_reducible assumption) | (with_reducible refine below_drewN ?_ _) | (with_reducible refine Below.drew ?_) | ((with_reducible refine Below.alloc ?_ ?_ _); (rotate_left; focus (first | omega | (simp; done) | (simp; omega)))) | ((with_reducible refine Below.setCell ?_ ?_ _); (rotate_left; focus (first | omega | (simp; done) | (simp; omega)))) | (with_reducible refine Below.grown ?_ (by assumption) (by first | omega | (simp; omega)) (by simp [Value.ownBlock]; try omega)) | (with_reducible refine below_then ?_ (Aft.below _)) | (with_reducible apply below_then; rotate_left; assumption)))); rintro e v3 ⟨rfl, hb_v3⟩; have hs_v3 := hb_v3.size; (try simp at hs_v3)) | (go_at_call 22; (with_reducible refine (ten_at (HX.below ?hz4)).mono ?_); (case hz4 => (repeat' (first | (with_reducible exact Below.refl _ _) | (with_reducible assumption) | (with_reducible refine below_drewN ?_ _) | (with_reducible refine Below.drew ?_) | ((with_reducible refine Below.alloc ?_ ?_ _); (rotate_left; focus (first | omega | (simp; done) | (simp; omega)))) | ((with_reducible refine Below.setCell ?_ ?_ _); (rotate_left; focus (first | omega | (simp; done) | (simp; omega)))) | (with_reducible refine Below.grown ?_ (by assumption) (by first | omega | (simp; omega)) (by simp [Value.ownBlock]; try omega)) | (with_reducible refine below_then ?_ (Aft.below _)) | (with_reducible apply below_then; rotate_left; assumption)))); rintro e v4 ⟨rfl, hb_v4⟩; have hs_v4 := hb_v4.size; (try simp at hs_v4)) | (go_at_call 24; (with_reducible refine (long_at (hB3.below ?hz5)).mono ?_); (case hz5 => (repeat' (first | (with_reducible exact Below.refl _ _) | (with_reducible assumption) | (with_reducible refine below_drewN ?_ _) | (with_reducible refine Below.drew ?_) | ((with_reducible refine Below.alloc ?_ ?_ _); (rotate_left; focus (first | omega | (simp; done) | (simp; omega)))) | ((with_reducible refine Below.setCell ?_ ?_ _); (rotate_left; focus (first | omega | (simp; done) | (simp; omega)))) | (with_reducible refine Below.grown ?_ (by assumption) (by first | omega | (simp; omega)) (by simp [Value.ownBlock]; try omega)) | (with_reducible refine below_then ?_ (Aft.below _)) | (with_reducible apply below_then; rotate_left; assumption)))); rintro e v5 ⟨rfl, hb_v5⟩; have hs_v5 := hb_v5.size; (try simp at hs_v5)) | (go_at_call 24; (with_reducible refine (long_at (HX.below ?hz6)).mono ?_); (case hz6 => (repeat' (first | (with_reducible exact Below.refl _ _) | (with_reducible assumption) | (with_reducible refine below_drewN ?_ _) | (with_reducible refine Below.drew ?_) | ((with_reducible refine Below.alloc ?_ ?_ _); (rotate_left; focus (first | omega | (simp; done) | (simp; omega)))) | ((with_reducible refine Below.setCell ?_ ?_ _); (rotate_left; focus (first | omega | (simp; done) | (simp; omega)))) | (with_reducible refine Below.grown ?_ (by assumption) (by first | omega | (simp; omega)) (by simp [Value.ownBlock]; try omega)) | (with_reducible refine below_then ?_ (Aft.below _)) | (with_reducible apply below_then; rotate_left; assumption)))); rintro e v6 ⟨rfl, hb_v6⟩; have hs_v6 := hb_v6.size; (try simp at hs_v6)))
  go_ret
  exact ⟨ret_bool (by simp), by (repeat' (first | (with_reducible exact Below.refl _ _) | (with_reducible assumption) | (with_reducible refine below_drewN ?_ _) | (with_reducible refine Below.drew ?_) | ((with_reducible refine Below.alloc ?_ ?_ _); (rotate_left; focus (first | omega | (simp; done) | (simp; omega)))) | ((with_reducible refine Below.setCell ?_ ?_ _); (rotate_left; focus (first | omega | (simp; done) | (simp; omega)))) | (with_reducible refine Below.grown ?_ (by assumption) (by first | omega | (simp; omega)) (by simp [Value.ownBlock]; try omega)) | (with_reducible refine below_then ?_ (Aft.below _)) | (with_reducible apply below_then; rotate_left; assumption)))⟩
theorem sumsBursts_any (a : Option Addr) (len capa : Nat) (xs : List Int) (at' by' : Int) (w : World) (HX : len ≤ 140737488355328 → BytesAt w a len xs) (NA : a = none → capa = 0) (a0 : 0 ≤ at') (a1 : at' < 18446744073709551616) (b0 : 0 ≤ by') (b1 : by' < 4294967296) :
    Calls Try.prog 5 #[.slice a len capa, .int .u64 at', .int .u32 by'] w fun e w' => e = .returned (.bool true) ∧ Below w.heap.size w w' := by
  by_cases hl : len ≤ 300
  · by_cases h0 : len = 0
    · have h1 : decide ((300 : Int) < len) = false := by simp; omega
      subst h0
      clear HX
      go_enter Try.func5, Try.ntmps5
      go_wp2_with (first | (go_at_call 15; refine (awake01 _).mono ?_; rintro e wa ⟨rfl, hb_wa⟩; obtain ⟨hc_wa, hf_wa⟩ := bcell hb_wa; have hs_wa := hb_wa.size; (try simp at hs_wa); (try have h1_wa : w.heap.size < wa.heap.size := by omega); (try have h3_wa : w.heap.size < wa.heap.size + 1 := by omega); (try have h4_wa : w.heap.size < wa.heap.size + 1 + 1 := by omega); (try have h5_wa : ¬ w.heap.size = wa.heap.size := by omega)))
      go_ret
      exact ⟨rfl, by (repeat' (first | (with_reducible exact Below.refl _ _) | (with_reducible assumption) | (with_reducible refine below_drewN ?_ _) | (with_reducible refine Below.drew ?_) | ((with_reducible refine Below.alloc ?_ ?_ _); (rotate_left; focus (first | omega | (simp; done) | (simp; omega)))) | ((with_reducible refine Below.setCell ?_ ?_ _); (rotate_left; focus (first | omega | (simp; done) | (simp; omega)))) | (with_reducible refine Below.grown ?_ (by assumption) (by first | omega | (simp; omega)) (by simp [Value.ownBlock]; try omega)) | (with_reducible refine below_then ?_ (Aft.below _)) | (with_reducible apply below_then; rotate_left; assumption)))⟩
    · obtain ⟨n, rfl⟩ := Int.eq_ofNat_of_zero_le a0
      obtain ⟨m, rfl⟩ := Int.eq_ofNat_of_zero_le b0
      exact sumsBursts_go a len capa xs n m w (HX (by omega)) NA (by omega) hl (by omega) (by omega)
  · have h0 : decide ((300 : Int) < len) = true := by simp; omega
    clear HX
    go_enter Try.func5, Try.ntmps5
    go_wp2_with (first | (go_at_call 15; refine (awake01 _).mono ?_; rintro e wa ⟨rfl, hb_wa⟩; obtain ⟨hc_wa, hf_wa⟩ := bcell hb_wa; have hs_wa := hb_wa.size; (try simp at hs_wa); (try have h1_wa : w.heap.size < wa.heap.size := by omega); (try have h3_wa : w.heap.size < wa.heap.size + 1 := by omega); (try have h4_wa : w.heap.size < wa.heap.size + 1 + 1 := by omega); (try have h5_wa : ¬ w.heap.size = wa.heap.size := by omega)))
    go_ret
    exact ⟨rfl, by (repeat' (first | (with_reducible exact Below.refl _ _) | (with_reducible assumption) | (with_reducible refine below_drewN ?_ _) | (with_reducible refine Below.drew ?_) | ((with_reducible refine Below.alloc ?_ ?_ _); (rotate_left; focus (first | omega | (simp; done) | (simp; omega)))) | ((with_reducible refine Below.setCell ?_ ?_ _); (rotate_left; focus (first | omega | (simp; done) | (simp; omega)))) | (with_reducible refine Below.grown ?_ (by assumption) (by first | omega | (simp; omega)) (by simp [Value.ownBlock]; try omega)) | (with_reducible refine below_then ?_ (Aft.below _)) | (with_reducible apply below_then; rotate_left; assumption)))⟩
end Go.Proofs.Ytlkfgldkgddgaaa
