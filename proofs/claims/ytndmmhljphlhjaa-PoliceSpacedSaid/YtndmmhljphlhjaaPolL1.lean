/- The walk of the law PoliceSpaced. -/
import Derived.Test.YtndmmhljphlhjaaPolP
namespace Go.Proofs.Ytndmmhljphlhjaa
set_option linter.unusedVariables false
set_option linter.unusedSimpArgs false
open Go.RowKit
set_option maxRecDepth 100000
set_option maxHeartbeats 4000000
theorem policeSpaced_long (k p e wh b l : Int) (a : Option Addr) (len cap : Nat) (w : World) (h1 : len ≤ 9223372036854775807) (h3 : 300 < len) :
    Calls Try.prog 10 #[.agg #[.int .i64 k, .int .i64 p, .int .i64 e, .int .i64 wh, .int .i64 b, .int .i64 l], .slice a len cap] w fun e w' => e = .returned (.bool true) ∧ Below w.heap.size w w' := by
  have d1 : decide ((300 : Int) < (len : Int)) = true := decide_eq_true (by omega)
  go_enter Try.func10, Try.ntmps10
  go_wp2_with (go_at_call 27; refine (awake07 _).mono ?_; rintro e w' ⟨rfl, hb⟩; obtain ⟨hc, hf⟩ := bcell hb; have hz := hb.size; (try simp at hz); (try have hz1 : w.heap.size < w'.heap.size := by omega); (try have hz2 : w.heap.size + 1 < w'.heap.size := by omega))
  go_ret
  exact ⟨rfl, by (repeat' (first | exact Below.refl _ _ | assumption | (refine Below.grown ?_ (by assumption) (by first | omega | (simp; omega)) (by simp [Value.ownBlock]; try omega)) | (refine below_drewN ?_ _) | (refine Below.drew ?_) | (refine Below.alloc ?_ (by first | omega | (simp; done) | (simp; omega)) _) | (refine Below.setCell ?_ (by first | omega | (simp; done) | (simp; omega)) _) | (refine below_then ?_ (Aft.below _)) | (apply below_then; rotate_left; assumption)))⟩
theorem policeSpaced_bad (k p e wh b l : Int) (a : Option Addr) (len cap : Nat) (w : World) (h3 : len ≤ 300) (R : Int) (hR : rightZ k p e wh b l = R) (h0 : ¬ R = 0) :
    Calls Try.prog 10 #[.agg #[.int .i64 k, .int .i64 p, .int .i64 e, .int .i64 wh, .int .i64 b, .int .i64 l], .slice a len cap] w fun e w' => e = .returned (.bool true) ∧ Below w.heap.size w w' := by
  have d1 : decide ((300 : Int) < (len : Int)) = false := decide_eq_false (by omega)
  have d2 : (R != 0) = true := by simp [h0]
  go_enter Try.func10, Try.ntmps10
  go_wp2_with (first | (go_at_call 27; refine (awake07 _).mono ?_; rintro e w' ⟨rfl, hb⟩; obtain ⟨hc, hf⟩ := bcell hb; have hz := hb.size; (try simp at hz); (try have hz1 : w.heap.size < w'.heap.size := by omega); (try have hz2 : w.heap.size + 1 < w'.heap.size := by omega)) | (go_at_call 28; (with_reducible refine (newP_bad k p e wh b l _ R hR h0).mono ?_); rintro e w1 ⟨rfl, hb_w1⟩))
  go_ret
  exact ⟨rfl, by (repeat' (first | exact Below.refl _ _ | assumption | (refine Below.grown ?_ (by assumption) (by first | omega | (simp; omega)) (by simp [Value.ownBlock]; try omega)) | (refine below_drewN ?_ _) | (refine Below.drew ?_) | (refine Below.alloc ?_ (by first | omega | (simp; done) | (simp; omega)) _) | (refine Below.setCell ?_ (by first | omega | (simp; done) | (simp; omega)) _) | (refine below_then ?_ (Aft.below _)) | (apply below_then; rotate_left; assumption)))⟩
theorem policeSpaced_go (k p e wh b l : Int) (a : Option Addr) (len cap : Nat) (cs : List Cl) (w : World) (hA : ClAt w a len cs) (h3 : len ≤ 300) (hR : rightZ k p e wh b l = 0) :
    Calls Try.prog 10 #[.agg #[.int .i64 k, .int .i64 p, .int .i64 e, .int .i64 wh, .int .i64 b, .int .i64 l], .slice a len cap] w fun e w' => e = .returned (.bool true) ∧ Below w.heap.size w w' := by
  have d1 : decide ((300 : Int) < (len : Int)) = false := decide_eq_false (by omega)
  have ok := pz_ok hR
  have hgb := gapS_bd hA.fine
  have hgs : ∀ i x, cs[i]? = some x → gapS (cs.take (i + 1)) = gapS (cs.take i) + x.g := fun i x hx => gapS_step hx
  obtain ⟨c, hc⟩ : ∃ c, c = pzOf k p e wh b := ⟨_, rfl⟩
  rw [← hc] at ok
  have hcs : c.s1 = p ∧ c.s2 = wh ∧ c.al = decide (k = 7) := by rw [hc]; exact ⟨rfl, rfl, rfl⟩
  have HC := Lib.hid hc
  have HB := Lib.hid hgb
  have HS := Lib.hid hgs
  obtain ⟨⟨p0, p1, _, _⟩, hF⟩ := rightZ_zero.1 hR
  have hw : 0 ≤ wh ∧ wh ≤ 1099511627776 := by omega
  clear hc hF hgb hgs
  obtain ⟨M, hM⟩ : ∃ M, M = if p < wh then wh else p := ⟨_, rfl⟩
  have bM : 1 ≤ M ∧ M ≤ 1099511627776 := by rw [hM]; split <;> omega
  have mM : p ≤ M ∧ wh ≤ M := by rw [hM]; split <;> omega
  go_enter Try.func10, Try.ntmps10
  go_wp2_with (first
    | (go_at_call 27; refine (awake07 _).mono ?_; rintro e wa ⟨rfl, hb_wa⟩; have BX := (Box6.new k p e wh b l _ w).below hb_wa; have A_a := (hA.below ((Below.refl _ _).alloc (Nat.le_refl _) _)).below hb_wa; have B_a : Below w.heap.size w wa := ((Below.refl _ _).alloc (Nat.le_refl _) _).trans (hb_wa.mono (by simp)); clear hb_wa; obtain ⟨q0, q1, q2, q3, q4, q5⟩ := id BX)
    | (go_at_call 28; (with_reducible refine (new_S k p e wh b l _ hR).mono ?_); rw [← HC.out]; rintro e w1 ⟨P, rfl, H1, hb_w1⟩; clear q0 q1 q2 q3 q4 q5))
  clear hA
  have L1 := hb_w1.size
  go_loopw [7, 8, 9, 29] (fun s7 s8 s9 s29 wr => ∃ (i : Nat) (S : S4) (c0 c1 c2 c3 : Int), i ≤ len ∧ s29 = .int .i64 i ∧ s7 = .int .i64 (M * (i : Int) + gapS (cs.take i)) ∧ PolS wa.heap.size w1.heap.size c S c0 c1 c2 c3 P wr ∧ SpInv c S (M * (i : Int) + gapS (cs.take i)) i c0 c1 c2 c3 ∧ Below wa.heap.size wa wr) (fun s7 s8 s9 s29 wr => len - (intOf s29).toNat)
  case atStart =>
    refine ⟨0, S4.zero, 0, 0, 0, 0, by omega, rfl, by simp [gapS], H1, ⟨⟨?_, fun hh => ?_⟩, Grw.zero, Cnt.zero⟩, hb_w1⟩
    · have := ok.s1
      show (0 : Int) ≤ _
      simp [gapS]; omega
    · have := ok.s2 hh
      show (0 : Int) ≤ _
      simp [gapS]; omega
  case round =>
    obtain ⟨i, S, c0, c1, c2, c3, hi, rfl, rfl, HP, ⟨⟨i1, i2⟩, hgr, hcn⟩, hb⟩ := hrel
    have bg := HB.out i
    obtain ⟨G, hG⟩ : ∃ G, G = gapS (cs.take i) := ⟨_, rfl⟩
    rw [← hG] at bg i1 i2 ⊢
    obtain ⟨T, hT⟩ : ∃ T, T = M * (i : Int) + G := ⟨_, rfl⟩
    rw [← hT] at i1 i2 ⊢
    have hMi : 0 ≤ M * (i : Int) ∧ M * (i : Int) ≤ 1099511627776 * (i : Int) := ⟨Int.mul_nonneg (by omega) (by omega), Int.mul_le_mul_of_nonneg_right bM.2 (by omega)⟩
    have bT : 0 ≤ T ∧ T ≤ 332000000000000 + 1000000000000 := by omega
    by_cases hlt : i < len
    · obtain ⟨g, off, rfl, hg, hcl⟩ := A_a.cells (by omega)
      obtain ⟨x, hx⟩ : ∃ x, cs[i]? = some x := ⟨_, List.getElem?_eq_getElem (by rw [A_a.length]; exact hlt)⟩
      have bx := A_a.fine x (List.mem_of_getElem? hx)
      have e0 := (hb.cell (p := ⟨g, off + i * 2, none⟩) hg).trans (hcl i x hx).1
      have e1 := (hb.cell (p := ⟨g, off + i * 2 + 1, none⟩) hg).trans (hcl i x hx).2
      obtain ⟨q0, q1, q2, q3, q4, q5⟩ := BX.below hb
      have hnx : M * ((i + 1 : Nat) : Int) + gapS (cs.take (i + 1)) = T + (M + x.g) := by
        rw [HS.out i x hx, ← hG, hT, Int.natCast_add, Int.mul_add]; simp; omega
      have HN := Lib.hid hnx
      have HM := Lib.hid hM
      obtain ⟨t', ht'⟩ : ∃ t', t' = T + (M + x.g) := ⟨_, rfl⟩
      have st := spaced_step ok i1 i2 (t' := t') (by rw [hcs.1]; omega) (fun _ => by rw [hcs.2.1]; omega) (by omega) (by omega) (!x.low)
      have hl := last_pass st.1
      rw [hcs.2.2] at hl
      have HT := Lib.hid ht'
      have ST := Lib.hid st
      have HL := Lib.hid hl
      obtain ⟨x0, low⟩ := x
      dsimp only at *
      clear hcl hx hnx hG hT hM hMi i1 i2 ht' st hl hcs
      have hg1 := hgr.step ok t'
      obtain ⟨z0, z1, z2, z3⟩ := hcn.le (by omega)
      have hBd := hgr.le (by omega)
      by_cases hk : k = 7
      · have dk : (k == 7) = true := by simp [hk]
        cases low
        · have hl : c.last S t' true = 2 := HL.out.trans (by simp [hk])
          clear hk
          go_wp2
          go_quiet (fail)
          rw [← HM.out, ← HT.out]
          obtain ⟨wd, hwd⟩ : ∃ wd, wd = wr.drewN nq := ⟨_, rfl⟩
          have bd : Below wr.heap.size wr wd := by rw [hwd]; exact below_drewN (Below.refl _ _) _
          rw [← hwd]
          clear hwd
          have HPd := HP.below bd
          have e0d := cell_keep bd e0
          have e1d := cell_keep bd e1
          have q0d := cell_keep bd q0
          have bb := hb.trans (bd.mono hb.size)
          go_wp2_with (first
            | (go_at_call 30; (with_reducible refine (clp_any _ _ _).mono ?_); rintro e wc ⟨rfl, hb_wc⟩; have HPc := HPd.below hb_wc; have bc := bb.trans (hb_wc.mono bb.size))
            | (go_at_call 29; (with_reducible refine (take_at (z := true) (by decide) HPc hBd z0 z1 z2 z3 hl rfl rfl rfl rfl rfl).mono ?_); rintro e wt ⟨rfl, HPt, Gt⟩))
          have bt := bc.trans (bel_of Gt (Nat.le_refl _) bc.size)
          go_roundw
          case rel => exact ⟨i + 1, _, _, _, _, _, by omega, by go_num, by rw [HN.out, ← HT.out], HPt, ⟨⟨by rw [HN.out, ← HT.out]; exact ST.out.2.1, by rw [HN.out, ← HT.out]; exact ST.out.2.2⟩, hg1 true, hcn.step 2⟩, bt⟩
          case measure => simp [intOf]; omega
        · have hl : c.last S t' false = 1 := HL.out.trans (by simp)
          clear hk
          go_wp2
          go_quiet (fail)
          rw [← HM.out, ← HT.out]
          obtain ⟨wd, hwd⟩ : ∃ wd, wd = wr.drewN nq := ⟨_, rfl⟩
          have bd : Below wr.heap.size wr wd := by rw [hwd]; exact below_drewN (Below.refl _ _) _
          rw [← hwd]
          clear hwd
          have HPd := HP.below bd
          have e0d := cell_keep bd e0
          have e1d := cell_keep bd e1
          have q0d := cell_keep bd q0
          have bb := hb.trans (bd.mono hb.size)
          go_wp2_with (first
            | (go_at_call 30; (with_reducible refine (clp_any _ _ _).mono ?_); rintro e wc ⟨rfl, hb_wc⟩; have HPc := HPd.below hb_wc; have bc := bb.trans (hb_wc.mono bb.size))
            | (go_at_call 29; (with_reducible refine (take_at (z := false) (by decide) HPc hBd z0 z1 z2 z3 hl rfl rfl rfl rfl rfl).mono ?_); rintro e wt ⟨rfl, HPt, Gt⟩))
          have bt := bc.trans (bel_of Gt (Nat.le_refl _) bc.size)
          go_roundw
          case rel => exact ⟨i + 1, _, _, _, _, _, by omega, by go_num, by rw [HN.out, ← HT.out], HPt, ⟨⟨by rw [HN.out, ← HT.out]; exact ST.out.2.1, by rw [HN.out, ← HT.out]; exact ST.out.2.2⟩, hg1 false, hcn.step 1⟩, bt⟩
          case measure => simp [intOf]; omega
      · have dk : (k == 7) = false := by simp [hk]
        cases low
        · have hl : c.last S t' true = 1 := HL.out.trans (by simp [hk])
          clear hk
          go_wp2
          go_quiet (fail)
          rw [← HM.out, ← HT.out]
          obtain ⟨wd, hwd⟩ : ∃ wd, wd = wr.drewN nq := ⟨_, rfl⟩
          have bd : Below wr.heap.size wr wd := by rw [hwd]; exact below_drewN (Below.refl _ _) _
          rw [← hwd]
          clear hwd
          have HPd := HP.below bd
          have e0d := cell_keep bd e0
          have e1d := cell_keep bd e1
          have q0d := cell_keep bd q0
          have bb := hb.trans (bd.mono hb.size)
          go_wp2_with (first
            | (go_at_call 30; (with_reducible refine (clp_any _ _ _).mono ?_); rintro e wc ⟨rfl, hb_wc⟩; have HPc := HPd.below hb_wc; have bc := bb.trans (hb_wc.mono bb.size))
            | (go_at_call 29; (with_reducible refine (take_at (z := true) (by decide) HPc hBd z0 z1 z2 z3 hl rfl rfl rfl rfl rfl).mono ?_); rintro e wt ⟨rfl, HPt, Gt⟩))
          have bt := bc.trans (bel_of Gt (Nat.le_refl _) bc.size)
          go_roundw
          case rel => exact ⟨i + 1, _, _, _, _, _, by omega, by go_num, by rw [HN.out, ← HT.out], HPt, ⟨⟨by rw [HN.out, ← HT.out]; exact ST.out.2.1, by rw [HN.out, ← HT.out]; exact ST.out.2.2⟩, hg1 true, hcn.step 1⟩, bt⟩
          case measure => simp [intOf]; omega
        · have hl : c.last S t' false = 1 := HL.out.trans (by simp)
          clear hk
          go_wp2
          go_quiet (fail)
          rw [← HM.out, ← HT.out]
          obtain ⟨wd, hwd⟩ : ∃ wd, wd = wr.drewN nq := ⟨_, rfl⟩
          have bd : Below wr.heap.size wr wd := by rw [hwd]; exact below_drewN (Below.refl _ _) _
          rw [← hwd]
          clear hwd
          have HPd := HP.below bd
          have e0d := cell_keep bd e0
          have e1d := cell_keep bd e1
          have q0d := cell_keep bd q0
          have bb := hb.trans (bd.mono hb.size)
          go_wp2_with (first
            | (go_at_call 30; (with_reducible refine (clp_any _ _ _).mono ?_); rintro e wc ⟨rfl, hb_wc⟩; have HPc := HPd.below hb_wc; have bc := bb.trans (hb_wc.mono bb.size))
            | (go_at_call 29; (with_reducible refine (take_at (z := false) (by decide) HPc hBd z0 z1 z2 z3 hl rfl rfl rfl rfl rfl).mono ?_); rintro e wt ⟨rfl, HPt, Gt⟩))
          have bt := bc.trans (bel_of Gt (Nat.le_refl _) bc.size)
          go_roundw
          case rel => exact ⟨i + 1, _, _, _, _, _, by omega, by go_num, by rw [HN.out, ← HT.out], HPt, ⟨⟨by rw [HN.out, ← HT.out]; exact ST.out.2.1, by rw [HN.out, ← HT.out]; exact ST.out.2.2⟩, hg1 false, hcn.step 1⟩, bt⟩
          case measure => simp [intOf]; omega
    · obtain rfl : len = i := by omega
      go_wp2
      go_ret
      exact ⟨rfl, B_a.trans (hb.mono B_a.size)⟩
namespace policeSpaced
theorem policeSpaced_any (k p e wh b l : Int) (a : Option Addr) (len cap : Nat) (cs : List Cl) (w : World) (hA : ClAt w a len cs) (hlc : len ≤ cap) (hcm : cap ≤ maxLen) :
    Calls Try.prog 10 #[.agg #[.int .i64 k, .int .i64 p, .int .i64 e, .int .i64 wh, .int .i64 b, .int .i64 l], .slice a len cap] w fun e w' => e = .returned (.bool true) ∧ Below w.heap.size w w' := by
  unfold maxLen at hcm
  by_cases h : 300 < len
  · exact policeSpaced_long k p e wh b l a len cap w (by omega) h
  · by_cases hR : rightZ k p e wh b l = 0
    · exact policeSpaced_go k p e wh b l a len cap cs w hA (by omega) hR
    · exact policeSpaced_bad k p e wh b l a len cap w (by omega) _ rfl hR
end policeSpaced
end Go.Proofs.Ytndmmhljphlhjaa
