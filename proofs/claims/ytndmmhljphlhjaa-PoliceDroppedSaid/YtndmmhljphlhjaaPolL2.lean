/- The walk of the law PoliceDropped. -/
import Derived.Test.YtndmmhljphlhjaaPolP
namespace Go.Proofs.Ytndmmhljphlhjaa
set_option linter.unusedVariables false
set_option linter.unusedSimpArgs false
open Go.RowKit
set_option maxRecDepth 100000
set_option maxHeartbeats 4000000
theorem policeDropped_long (k p e wh b l : Int) (a : Option Addr) (len cap : Nat) (w : World) (h1 : len ≤ 9223372036854775807) (h3 : 300 < len) :
    Calls Try.prog 11 #[.agg #[.int .i64 k, .int .i64 p, .int .i64 e, .int .i64 wh, .int .i64 b, .int .i64 l], .slice a len cap] w fun e w' => e = .returned (.bool true) ∧ Below w.heap.size w w' := by
  have d1 : decide ((300 : Int) < (len : Int)) = true := decide_eq_true (by omega)
  go_enter Try.func11, Try.ntmps11
  go_wp2_with (go_at_call 27; refine (awake07 _).mono ?_; rintro e w' ⟨rfl, hb⟩; obtain ⟨hc, hf⟩ := bcell hb; have hz := hb.size; (try simp at hz); (try have hz1 : w.heap.size < w'.heap.size := by omega); (try have hz2 : w.heap.size + 1 < w'.heap.size := by omega))
  go_ret
  exact ⟨rfl, by (repeat' (first | exact Below.refl _ _ | assumption | (refine Below.grown ?_ (by assumption) (by first | omega | (simp; omega)) (by simp [Value.ownBlock]; try omega)) | (refine below_drewN ?_ _) | (refine Below.drew ?_) | (refine Below.alloc ?_ (by first | omega | (simp; done) | (simp; omega)) _) | (refine Below.setCell ?_ (by first | omega | (simp; done) | (simp; omega)) _) | (refine below_then ?_ (Aft.below _)) | (apply below_then; rotate_left; assumption)))⟩
theorem policeDropped_bad (k p e wh b l : Int) (a : Option Addr) (len cap : Nat) (w : World) (h3 : len ≤ 300) (R : Int) (hR : rightZ k p e wh b l = R) (h0 : ¬ R = 0) :
    Calls Try.prog 11 #[.agg #[.int .i64 k, .int .i64 p, .int .i64 e, .int .i64 wh, .int .i64 b, .int .i64 l], .slice a len cap] w fun e w' => e = .returned (.bool true) ∧ Below w.heap.size w w' := by
  have d1 : decide ((300 : Int) < (len : Int)) = false := decide_eq_false (by omega)
  have d2 : (R != 0) = true := by simp [h0]
  go_enter Try.func11, Try.ntmps11
  go_wp2_with (first
    | (go_at_call 27; refine (awake07 _).mono ?_; rintro e wa ⟨rfl, hb_wa⟩; have BX := (Box6.new k p e wh b l _ w).below hb_wa; have B_a : Below w.heap.size w wa := ((Below.refl _ _).alloc (Nat.le_refl _) _).trans (hb_wa.mono (by simp)); clear hb_wa; obtain ⟨q0, q1, q2, q3, q4, q5⟩ := id BX)
    | (go_at_call 28; (with_reducible refine (newP_bad k p e wh b l wa R hR h0).mono ?_); rintro e w1 ⟨rfl, hb_w1⟩; have BX1 := BX.below hb_w1; obtain ⟨r0, r1, r2, r3, r4, r5⟩ := id BX1)
    | (go_at_call 28; (with_reducible refine (newP_bad k p e wh b l _ R hR h0).mono ?_); rintro e w2 ⟨rfl, hb_w2⟩))
  go_ret
  exact ⟨rfl, B_a.trans ((hb_w1.trans (hb_w2.mono hb_w1.size)).mono B_a.size)⟩
theorem policeDropped_go (k p e wh b l : Int) (a : Option Addr) (len cap : Nat) (cs : List Cl) (w : World) (hA : ClAt w a len cs) (h3 : len ≤ 300) (hR : rightZ k p e wh b l = 0) :
    Calls Try.prog 11 #[.agg #[.int .i64 k, .int .i64 p, .int .i64 e, .int .i64 wh, .int .i64 b, .int .i64 l], .slice a len cap] w fun e w' => e = .returned (.bool true) ∧ Below w.heap.size w w' := by
  have d1 : decide ((300 : Int) < (len : Int)) = false := decide_eq_false (by omega)
  have ok := pz_ok hR
  have hgb := gapS_bd hA.fine
  have hgs : ∀ i x, cs[i]? = some x → gapS (cs.take (i + 1)) = gapS (cs.take i) + x.g := fun i x hx => gapS_step hx
  obtain ⟨c, hc⟩ : ∃ c, c = pzOf k p e wh b := ⟨_, rfl⟩
  rw [← hc] at ok
  have HC := Lib.hid hc
  have HB := Lib.hid hgb
  have HS := Lib.hid hgs
  clear hc hgb hgs
  go_enter Try.func11, Try.ntmps11
  go_wp2_with (first
    | (go_at_call 27; refine (awake07 _).mono ?_; rintro e wa ⟨rfl, hb_wa⟩; have BX := (Box6.new k p e wh b l _ w).below hb_wa; have A_a := (hA.below ((Below.refl _ _).alloc (Nat.le_refl _) _)).below hb_wa; have B_a : Below w.heap.size w wa := ((Below.refl _ _).alloc (Nat.le_refl _) _).trans (hb_wa.mono (by simp)); clear hb_wa; obtain ⟨q0, q1, q2, q3, q4, q5⟩ := id BX)
    | (go_at_call 28; (with_reducible refine (new_S k p e wh b l wa hR).mono ?_); rw [← HC.out]; rintro e w1 ⟨P, rfl, H1, hb_w1⟩; have BX1 := BX.below hb_w1; clear q0 q1 q2 q3 q4 q5 BX; obtain ⟨q0, q1, q2, q3, q4, q5⟩ := id BX1)
    | (go_at_call 28; (with_reducible refine (new_S k p e wh b l _ hR).mono ?_); rw [← HC.out]; rintro e w2 ⟨O, rfl, H2, hb_w2⟩; clear q0 q1 q2 q3 q4 q5 BX1))
  clear hA
  have L1 := hb_w1.size
  have L2 := hb_w2.size
  have H1 := H1.below hb_w2
  have b2 := hb_w1.trans (hb_w2.mono L1)
  go_loopw [9, 10, 11, 42] (fun s9 s10 s11 s42 wr => ∃ (i : Nat) (S : S4) (c1 c2 c3 : Int), i ≤ len ∧ s42 = .int .i64 i ∧ s9 = .int .i64 (gapS (cs.take i)) ∧ PolS wa.heap.size w1.heap.size c S i c1 c2 c3 P wr ∧ PolS w1.heap.size w2.heap.size c S (c1 + c2) c1 c2 0 O wr ∧ Grw i S ∧ Cnt i i c1 c2 c3 ∧ (i : Int) = c1 + c2 + c3 ∧ Below wa.heap.size wa wr) (fun s9 s10 s11 s42 wr => len - (intOf s42).toNat)
  case atStart => exact ⟨0, S4.zero, 0, 0, 0, by omega, rfl, rfl, H1, H2, Grw.zero, Cnt.zero, rfl, b2⟩
  case round =>
    obtain ⟨i, S, c1, c2, c3, hi, rfl, rfl, HP, HO, hgr, hcn, hsum, hb⟩ := hrel
    have bg := HB.out i
    obtain ⟨T, hT⟩ : ∃ T, T = gapS (cs.take i) := ⟨_, rfl⟩
    rw [← hT] at bg ⊢
    have bT : 0 ≤ T ∧ T ≤ 1300000000000 := by omega
    obtain ⟨z0, z1, z2, z3⟩ := hcn.le (by omega)
    by_cases hlt : i < len
    · obtain ⟨g, off, rfl, hg, hcl⟩ := A_a.cells (by omega)
      obtain ⟨x, hx⟩ : ∃ x, cs[i]? = some x := ⟨_, List.getElem?_eq_getElem (by rw [A_a.length]; exact hlt)⟩
      have bx := A_a.fine x (List.mem_of_getElem? hx)
      have e0 := (hb.cell (p := ⟨g, off + i * 2, none⟩) hg).trans (hcl i x hx).1
      have e1 := (hb.cell (p := ⟨g, off + i * 2 + 1, none⟩) hg).trans (hcl i x hx).2
      have f0 := Lib.hid (hcl i x hx)
      have hnx : gapS (cs.take (i + 1)) = T + x.g := by rw [HS.out i x hx, ← hT]
      have HN := Lib.hid hnx
      have hg1 := hgr.step ok (T + x.g)
      have hBd := hgr.le (by omega)
      have y12 : 0 ≤ c1 + c2 ∧ c1 + c2 ≤ 1000000 := by unfold Cnt at hcn; omega
      have hlx := last_ex c S (T + x.g) (!x.low)
      have hdr : c.last S (T + x.g) (!x.low) = 3 → c.nxt S (T + x.g) (!x.low) = S := drop_nxt
      have HD := Lib.hid hdr
      have HSM := Lib.hid hsum
      obtain ⟨x0, low⟩ := x
      dsimp only at *
      clear hcl hx hnx hT hdr hsum
      cases low
      · rcases hlx with hl | hl | hl
        · have hl : c.last S (T + x0) true = 1 := hl
          go_wp2_with (first
            | (go_at_call 30; (with_reducible refine (clp_any _ _ wr).mono ?_); rintro e wc ⟨rfl, hb_wc⟩; have HPc := HP.below hb_wc; have HOc := HO.below hb_wc; have bc := hb.trans (hb_wc.mono hb.size))
            | (go_at_call 29; (with_reducible refine (take_at (z := true) (d0 := ((i + 1 : Nat) : Int)) (d1 := c1 + 1) (d2 := c2) (d3 := c3) (by decide) HPc hBd z0 z1 z2 z3 hl rfl (by omega) (by unfold hit; simp) (by unfold hit; simp) (by unfold hit; simp)).mono ?_); rintro e wt ⟨rfl, HPt, Gt⟩; have HOt := HOc.other Gt (fun k hk => by omega); have bt := bc.trans (bel_of Gt (Nat.le_refl _) bc.size); have e0t := (bt.cell (p := ⟨g, off + i * 2, none⟩) hg).trans f0.out.1; have e1t := (bt.cell (p := ⟨g, off + i * 2 + 1, none⟩) hg).trans f0.out.2)
            | (go_at_call 30; (with_reducible refine (clp_any _ _ wt).mono ?_); rintro e wd ⟨rfl, hb_wd⟩; have HPd := HPt.below hb_wd; have HOd := HOt.below hb_wd; have bd := bt.trans (hb_wd.mono bt.size))
            | (go_at_call 29; (with_reducible refine (take_at (z := true) (d0 := (c1 + 1) + (c2)) (d1 := c1 + 1) (d2 := c2) (d3 := 0) (by decide) HOd hBd y12 z1 z2 (by omega) hl rfl (by omega) (by unfold hit; simp) (by unfold hit; simp) (by unfold hit; simp)).mono ?_); rintro e wu ⟨rfl, HOu, Gu⟩; have HPu := HPd.other Gu (fun k hk => by omega); have bu := bd.trans (bel_of Gu L1 bd.size)))
          go_roundw
          case rel => exact ⟨i + 1, c.nxt S (T + x0) true, c1 + 1, c2, c3, by omega, by go_num, by rw [HN.out], HPu, HOu, hg1 true, by unfold Cnt at hcn ⊢; omega, by have := HSM.out; omega, bu⟩
          case measure => simp [intOf]; omega
        · have hl : c.last S (T + x0) true = 2 := hl
          go_wp2_with (first
            | (go_at_call 30; (with_reducible refine (clp_any _ _ wr).mono ?_); rintro e wc ⟨rfl, hb_wc⟩; have HPc := HP.below hb_wc; have HOc := HO.below hb_wc; have bc := hb.trans (hb_wc.mono hb.size))
            | (go_at_call 29; (with_reducible refine (take_at (z := true) (d0 := ((i + 1 : Nat) : Int)) (d1 := c1) (d2 := c2 + 1) (d3 := c3) (by decide) HPc hBd z0 z1 z2 z3 hl rfl (by omega) (by unfold hit; simp) (by unfold hit; simp) (by unfold hit; simp)).mono ?_); rintro e wt ⟨rfl, HPt, Gt⟩; have HOt := HOc.other Gt (fun k hk => by omega); have bt := bc.trans (bel_of Gt (Nat.le_refl _) bc.size); have e0t := (bt.cell (p := ⟨g, off + i * 2, none⟩) hg).trans f0.out.1; have e1t := (bt.cell (p := ⟨g, off + i * 2 + 1, none⟩) hg).trans f0.out.2)
            | (go_at_call 30; (with_reducible refine (clp_any _ _ wt).mono ?_); rintro e wd ⟨rfl, hb_wd⟩; have HPd := HPt.below hb_wd; have HOd := HOt.below hb_wd; have bd := bt.trans (hb_wd.mono bt.size))
            | (go_at_call 29; (with_reducible refine (take_at (z := true) (d0 := (c1) + (c2 + 1)) (d1 := c1) (d2 := c2 + 1) (d3 := 0) (by decide) HOd hBd y12 z1 z2 (by omega) hl rfl (by omega) (by unfold hit; simp) (by unfold hit; simp) (by unfold hit; simp)).mono ?_); rintro e wu ⟨rfl, HOu, Gu⟩; have HPu := HPd.other Gu (fun k hk => by omega); have bu := bd.trans (bel_of Gu L1 bd.size)))
          go_roundw
          case rel => exact ⟨i + 1, c.nxt S (T + x0) true, c1, c2 + 1, c3, by omega, by go_num, by rw [HN.out], HPu, HOu, hg1 true, by unfold Cnt at hcn ⊢; omega, by have := HSM.out; omega, bu⟩
          case measure => simp [intOf]; omega
        · have hl : c.last S (T + x0) true = 3 := hl
          go_wp2_with (first
            | (go_at_call 30; (with_reducible refine (clp_any _ _ wr).mono ?_); rintro e wc ⟨rfl, hb_wc⟩; have HPc := HP.below hb_wc; have HOc := HO.below hb_wc; have bc := hb.trans (hb_wc.mono hb.size))
            | (go_at_call 29; (with_reducible refine (take_at (z := true) (d0 := ((i + 1 : Nat) : Int)) (d1 := c1) (d2 := c2) (d3 := c3 + 1) (by decide) HPc hBd z0 z1 z2 z3 hl rfl (by omega) (by unfold hit; simp) (by unfold hit; simp) (by unfold hit; simp)).mono ?_); rintro e wt ⟨rfl, HPt, Gt⟩; have HOt := HOc.other Gt (fun k hk => by omega); have bt := bc.trans (bel_of Gt (Nat.le_refl _) bc.size); have e0t := (bt.cell (p := ⟨g, off + i * 2, none⟩) hg).trans f0.out.1; have e1t := (bt.cell (p := ⟨g, off + i * 2 + 1, none⟩) hg).trans f0.out.2))
          go_roundw
          case rel => exact ⟨i + 1, S, c1, c2, c3 + 1, by omega, by go_num, by rw [HN.out], (HD.out hl) ▸ HPt, HOt, (HD.out hl) ▸ hg1 true, by unfold Cnt at hcn ⊢; omega, by have := HSM.out; omega, bt⟩
          case measure => simp [intOf]; omega
      · rcases hlx with hl | hl | hl
        · have hl : c.last S (T + x0) false = 1 := hl
          go_wp2_with (first
            | (go_at_call 30; (with_reducible refine (clp_any _ _ wr).mono ?_); rintro e wc ⟨rfl, hb_wc⟩; have HPc := HP.below hb_wc; have HOc := HO.below hb_wc; have bc := hb.trans (hb_wc.mono hb.size))
            | (go_at_call 29; (with_reducible refine (take_at (z := false) (d0 := ((i + 1 : Nat) : Int)) (d1 := c1 + 1) (d2 := c2) (d3 := c3) (by decide) HPc hBd z0 z1 z2 z3 hl rfl (by omega) (by unfold hit; simp) (by unfold hit; simp) (by unfold hit; simp)).mono ?_); rintro e wt ⟨rfl, HPt, Gt⟩; have HOt := HOc.other Gt (fun k hk => by omega); have bt := bc.trans (bel_of Gt (Nat.le_refl _) bc.size); have e0t := (bt.cell (p := ⟨g, off + i * 2, none⟩) hg).trans f0.out.1; have e1t := (bt.cell (p := ⟨g, off + i * 2 + 1, none⟩) hg).trans f0.out.2)
            | (go_at_call 30; (with_reducible refine (clp_any _ _ wt).mono ?_); rintro e wd ⟨rfl, hb_wd⟩; have HPd := HPt.below hb_wd; have HOd := HOt.below hb_wd; have bd := bt.trans (hb_wd.mono bt.size))
            | (go_at_call 29; (with_reducible refine (take_at (z := false) (d0 := (c1 + 1) + (c2)) (d1 := c1 + 1) (d2 := c2) (d3 := 0) (by decide) HOd hBd y12 z1 z2 (by omega) hl rfl (by omega) (by unfold hit; simp) (by unfold hit; simp) (by unfold hit; simp)).mono ?_); rintro e wu ⟨rfl, HOu, Gu⟩; have HPu := HPd.other Gu (fun k hk => by omega); have bu := bd.trans (bel_of Gu L1 bd.size)))
          go_roundw
          case rel => exact ⟨i + 1, c.nxt S (T + x0) false, c1 + 1, c2, c3, by omega, by go_num, by rw [HN.out], HPu, HOu, hg1 false, by unfold Cnt at hcn ⊢; omega, by have := HSM.out; omega, bu⟩
          case measure => simp [intOf]; omega
        · have hl : c.last S (T + x0) false = 2 := hl
          go_wp2_with (first
            | (go_at_call 30; (with_reducible refine (clp_any _ _ wr).mono ?_); rintro e wc ⟨rfl, hb_wc⟩; have HPc := HP.below hb_wc; have HOc := HO.below hb_wc; have bc := hb.trans (hb_wc.mono hb.size))
            | (go_at_call 29; (with_reducible refine (take_at (z := false) (d0 := ((i + 1 : Nat) : Int)) (d1 := c1) (d2 := c2 + 1) (d3 := c3) (by decide) HPc hBd z0 z1 z2 z3 hl rfl (by omega) (by unfold hit; simp) (by unfold hit; simp) (by unfold hit; simp)).mono ?_); rintro e wt ⟨rfl, HPt, Gt⟩; have HOt := HOc.other Gt (fun k hk => by omega); have bt := bc.trans (bel_of Gt (Nat.le_refl _) bc.size); have e0t := (bt.cell (p := ⟨g, off + i * 2, none⟩) hg).trans f0.out.1; have e1t := (bt.cell (p := ⟨g, off + i * 2 + 1, none⟩) hg).trans f0.out.2)
            | (go_at_call 30; (with_reducible refine (clp_any _ _ wt).mono ?_); rintro e wd ⟨rfl, hb_wd⟩; have HPd := HPt.below hb_wd; have HOd := HOt.below hb_wd; have bd := bt.trans (hb_wd.mono bt.size))
            | (go_at_call 29; (with_reducible refine (take_at (z := false) (d0 := (c1) + (c2 + 1)) (d1 := c1) (d2 := c2 + 1) (d3 := 0) (by decide) HOd hBd y12 z1 z2 (by omega) hl rfl (by omega) (by unfold hit; simp) (by unfold hit; simp) (by unfold hit; simp)).mono ?_); rintro e wu ⟨rfl, HOu, Gu⟩; have HPu := HPd.other Gu (fun k hk => by omega); have bu := bd.trans (bel_of Gu L1 bd.size)))
          go_roundw
          case rel => exact ⟨i + 1, c.nxt S (T + x0) false, c1, c2 + 1, c3, by omega, by go_num, by rw [HN.out], HPu, HOu, hg1 false, by unfold Cnt at hcn ⊢; omega, by have := HSM.out; omega, bu⟩
          case measure => simp [intOf]; omega
        · have hl : c.last S (T + x0) false = 3 := hl
          go_wp2_with (first
            | (go_at_call 30; (with_reducible refine (clp_any _ _ wr).mono ?_); rintro e wc ⟨rfl, hb_wc⟩; have HPc := HP.below hb_wc; have HOc := HO.below hb_wc; have bc := hb.trans (hb_wc.mono hb.size))
            | (go_at_call 29; (with_reducible refine (take_at (z := false) (d0 := ((i + 1 : Nat) : Int)) (d1 := c1) (d2 := c2) (d3 := c3 + 1) (by decide) HPc hBd z0 z1 z2 z3 hl rfl (by omega) (by unfold hit; simp) (by unfold hit; simp) (by unfold hit; simp)).mono ?_); rintro e wt ⟨rfl, HPt, Gt⟩; have HOt := HOc.other Gt (fun k hk => by omega); have bt := bc.trans (bel_of Gt (Nat.le_refl _) bc.size); have e0t := (bt.cell (p := ⟨g, off + i * 2, none⟩) hg).trans f0.out.1; have e1t := (bt.cell (p := ⟨g, off + i * 2 + 1, none⟩) hg).trans f0.out.2))
          go_roundw
          case rel => exact ⟨i + 1, S, c1, c2, c3 + 1, by omega, by go_num, by rw [HN.out], (HD.out hl) ▸ HPt, HOt, (HD.out hl) ▸ hg1 false, by unfold Cnt at hcn ⊢; omega, by have := HSM.out; omega, bt⟩
          case measure => simp [intOf]; omega
    · obtain rfl : len = i := by omega
      have hs1 : ((len : Int) == c1 + c2 + c3) = true := by rw [← hsum]; simp
      clear hsum
      go_wp2_with (first
        | (go_at_call 32; (with_reducible refine (counts_S _ HP).mono ?_); rintro e wc ⟨rfl, hb_wc⟩; have HOc := HO.below hb_wc; have bc := hb.trans (hb_wc.mono hb.size))
        | (go_at_call 32; (with_reducible refine (counts_S _ HOc).mono ?_); rintro e wd ⟨rfl, hb_wd⟩; have bd := bc.trans (hb_wd.mono bc.size)))
      go_ret
      exact ⟨ret_bool (by simp), B_a.trans ((((bd.alloc bd.size _).alloc (by have := bd.size; simp; omega) _)).mono B_a.size)⟩
namespace policeDropped
theorem policeDropped_any (k p e wh b l : Int) (a : Option Addr) (len cap : Nat) (cs : List Cl) (w : World) (hA : ClAt w a len cs) (hlc : len ≤ cap) (hcm : cap ≤ maxLen) :
    Calls Try.prog 11 #[.agg #[.int .i64 k, .int .i64 p, .int .i64 e, .int .i64 wh, .int .i64 b, .int .i64 l], .slice a len cap] w fun e w' => e = .returned (.bool true) ∧ Below w.heap.size w w' := by
  unfold maxLen at hcm
  by_cases h : 300 < len
  · exact policeDropped_long k p e wh b l a len cap w (by omega) h
  · by_cases hR : rightZ k p e wh b l = 0
    · exact policeDropped_go k p e wh b l a len cap cs w hA (by omega) hR
    · exact policeDropped_bad k p e wh b l a len cap w (by omega) _ rfl hR
end policeDropped
end Go.Proofs.Ytndmmhljphlhjaa
