/- The walk of the law PoliceDue. -/
import Derived.Test.YtndmmhljphlhjaaPolE
namespace Go.Proofs.Ytndmmhljphlhjaa
set_option linter.unusedVariables false
set_option linter.unusedSimpArgs false
open Go.RowKit
set_option maxRecDepth 100000
set_option maxHeartbeats 4000000
theorem policeDue_long (k p e wh b l : Int) (a : Option Addr) (len cap : Nat) (low : Bool) (w : World) (h1 : len ≤ 9223372036854775807) (h3 : 300 < len) :
    Calls Try.prog 13 #[.agg #[.int .i64 k, .int .i64 p, .int .i64 e, .int .i64 wh, .int .i64 b, .int .i64 l], .slice a len cap, .bool low] w fun e w' => e = .returned (.bool true) ∧ Below w.heap.size w w' := by
  have d1 : decide ((300 : Int) < (len : Int)) = true := decide_eq_true (by omega)
  go_enter Try.func13, Try.ntmps13
  go_wp2_with (go_at_call 27; refine (awake07 _).mono ?_; rintro e w' ⟨rfl, hb⟩; obtain ⟨hc, hf⟩ := bcell hb; have hz := hb.size; (try simp at hz); (try have hz1 : w.heap.size < w'.heap.size := by omega); (try have hz2 : w.heap.size + 1 < w'.heap.size := by omega))
  go_ret
  exact ⟨rfl, by (repeat' (first | exact Below.refl _ _ | assumption | (refine Below.grown ?_ (by assumption) (by first | omega | (simp; omega)) (by simp [Value.ownBlock]; try omega)) | (refine below_drewN ?_ _) | (refine Below.drew ?_) | (refine Below.alloc ?_ (by first | omega | (simp; done) | (simp; omega)) _) | (refine Below.setCell ?_ (by first | omega | (simp; done) | (simp; omega)) _) | (refine below_then ?_ (Aft.below _)) | (apply below_then; rotate_left; assumption)))⟩
theorem policeDue_bad (k p e wh b l : Int) (a : Option Addr) (len cap : Nat) (low : Bool) (w : World) (h3 : len ≤ 300) (R : Int) (hR : rightZ k p e wh b l = R) (h0 : ¬ R = 0) :
    Calls Try.prog 13 #[.agg #[.int .i64 k, .int .i64 p, .int .i64 e, .int .i64 wh, .int .i64 b, .int .i64 l], .slice a len cap, .bool low] w fun e w' => e = .returned (.bool true) ∧ Below w.heap.size w w' := by
  have d1 : decide ((300 : Int) < (len : Int)) = false := decide_eq_false (by omega)
  have d2 : (R != 0) = true := by simp [h0]
  go_enter Try.func13, Try.ntmps13
  go_wp2_with (first | (go_at_call 27; refine (awake07 _).mono ?_; rintro e w' ⟨rfl, hb⟩; obtain ⟨hc, hf⟩ := bcell hb; have hz := hb.size; (try simp at hz); (try have hz1 : w.heap.size < w'.heap.size := by omega); (try have hz2 : w.heap.size + 1 < w'.heap.size := by omega)) | (go_at_call 28; (with_reducible refine (newP_bad k p e wh b l _ R hR h0).mono ?_); rintro e w1 ⟨rfl, hb_w1⟩))
  go_ret
  exact ⟨rfl, by (repeat' (first | exact Below.refl _ _ | assumption | (refine Below.grown ?_ (by assumption) (by first | omega | (simp; omega)) (by simp [Value.ownBlock]; try omega)) | (refine below_drewN ?_ _) | (refine Below.drew ?_) | (refine Below.alloc ?_ (by first | omega | (simp; done) | (simp; omega)) _) | (refine Below.setCell ?_ (by first | omega | (simp; done) | (simp; omega)) _) | (refine below_then ?_ (Aft.below _)) | (apply below_then; rotate_left; assumption)))⟩
theorem policeDue_go (k p e wh b l : Int) (a : Option Addr) (len cap : Nat) (cs : List Cl) (low : Bool) (w : World) (hA : ClAt w a len cs) (h3 : len ≤ 300) (hR : rightZ k p e wh b l = 0) :
    Calls Try.prog 13 #[.agg #[.int .i64 k, .int .i64 p, .int .i64 e, .int .i64 wh, .int .i64 b, .int .i64 l], .slice a len cap, .bool low] w fun e w' => e = .returned (.bool true) ∧ Below w.heap.size w w' := by
  have d1 : decide ((300 : Int) < (len : Int)) = false := decide_eq_false (by omega)
  have ok := pz_ok hR
  have hgb := gapS_bd hA.fine
  have hgs : ∀ i x, cs[i]? = some x → gapS (cs.take (i + 1)) = gapS (cs.take i) + x.g := fun i x hx => gapS_step hx
  obtain ⟨c, hc⟩ : ∃ c, c = pzOf k p e wh b := ⟨_, rfl⟩
  rw [← hc] at ok
  have cal : c.al = decide (k = 7) := by rw [hc]; rfl
  have HC := Lib.hid hc
  have HB := Lib.hid hgb
  have HS := Lib.hid hgs
  have CA := Lib.hid cal
  clear hc hgb hgs cal
  go_enter Try.func13, Try.ntmps13
  go_wp2_with (first
    | (go_at_call 27; refine (awake07 _).mono ?_; rintro e wa ⟨rfl, hb_wa⟩; have BX := (Box6.new k p e wh b l _ w).below hb_wa; have A_a := (hA.below ((Below.refl _ _).alloc (Nat.le_refl _) _)).below hb_wa; have B_a : Below w.heap.size w wa := ((Below.refl _ _).alloc (Nat.le_refl _) _).trans (hb_wa.mono (by simp)); clear hb_wa; obtain ⟨q0, q1, q2, q3, q4, q5⟩ := id BX)
    | (go_at_call 28; (with_reducible refine (new_S k p e wh b l _ hR).mono ?_); rw [← HC.out]; rintro e w1 ⟨P, rfl, H1, hb_w1⟩; clear q0 q1 q2 q3 q4 q5))
  clear hA
  have L1 := hb_w1.size
  go_loopw [9, 10, 33] (fun s9 s10 s33 wr => ∃ (i : Nat) (S : S4) (c0 c1 c2 c3 : Int), i ≤ len ∧ s33 = .int .i64 i ∧ s9 = .int .i64 (gapS (cs.take i)) ∧ PolS wa.heap.size w1.heap.size c S c0 c1 c2 c3 P wr ∧ Grw i S ∧ Cnt i c0 c1 c2 c3 ∧ Below wa.heap.size wa wr) (fun s9 s10 s33 wr => len - (intOf s33).toNat)
  case atStart => exact ⟨0, S4.zero, 0, 0, 0, 0, by omega, rfl, rfl, H1, Grw.zero, Cnt.zero, hb_w1⟩
  case round =>
    obtain ⟨i, S, c0, c1, c2, c3, hi, rfl, rfl, HP, hgr, hcn, hb⟩ := hrel
    have bg := HB.out i
    obtain ⟨T, hT⟩ : ∃ T, T = gapS (cs.take i) := ⟨_, rfl⟩
    rw [← hT] at bg ⊢
    have bT : 0 ≤ T ∧ T ≤ 1300000000000 := by omega
    obtain ⟨z0, z1, z2, z3⟩ := hcn.le (by omega)
    have hBd := hgr.le (by omega)
    by_cases hlt : i < len
    · obtain ⟨g, off, rfl, hg, hcl⟩ := A_a.cells (by omega)
      obtain ⟨x, hx⟩ : ∃ x, cs[i]? = some x := ⟨_, List.getElem?_eq_getElem (by rw [A_a.length]; exact hlt)⟩
      have bx := A_a.fine x (List.mem_of_getElem? hx)
      have e0 := (hb.cell (p := ⟨g, off + i * 2, none⟩) hg).trans (hcl i x hx).1
      have e1 := (hb.cell (p := ⟨g, off + i * 2 + 1, none⟩) hg).trans (hcl i x hx).2
      have hnx : gapS (cs.take (i + 1)) = T + x.g := by rw [HS.out i x hx, ← hT]
      have HN := Lib.hid hnx
      have hg1 := hgr.step ok (T + x.g)
      obtain ⟨x0, lw⟩ := x
      dsimp only at *
      clear hcl hx hnx hT
      cases lw
      · go_wp2_with (first
          | (go_at_call 30; (with_reducible refine (clp_any _ _ _).mono ?_); rintro e wc ⟨rfl, hb_wc⟩; have HPc := HP.below hb_wc; have bc := hb.trans (hb_wc.mono hb.size))
          | (go_at_call 29; (with_reducible refine (take_at (z := true) (by decide) HPc hBd z0 z1 z2 z3 rfl rfl rfl rfl rfl rfl).mono ?_); rintro e wt ⟨rfl, HPt, Gt⟩; have bt := bc.trans (bel_of Gt (Nat.le_refl _) bc.size)))
        go_roundw
        case rel => exact ⟨i + 1, _, _, _, _, _, by omega, by go_num, by rw [HN.out], HPt, hg1 true, hcn.step _, bt⟩
        case measure => simp [intOf]; omega
      · go_wp2_with (first
          | (go_at_call 30; (with_reducible refine (clp_any _ _ _).mono ?_); rintro e wc ⟨rfl, hb_wc⟩; have HPc := HP.below hb_wc; have bc := hb.trans (hb_wc.mono hb.size))
          | (go_at_call 29; (with_reducible refine (take_at (z := false) (by decide) HPc hBd z0 z1 z2 z3 rfl rfl rfl rfl rfl rfl).mono ?_); rintro e wt ⟨rfl, HPt, Gt⟩; have bt := bc.trans (bel_of Gt (Nat.le_refl _) bc.size)))
        go_roundw
        case rel => exact ⟨i + 1, _, _, _, _, _, by omega, by go_num, by rw [HN.out], HPt, hg1 false, hcn.step _, bt⟩
        case measure => simp [intOf]; omega
    · obtain rfl : len = i := by omega
      obtain ⟨q0, q1, q2, q3, q4, q5⟩ := BX.below hb
      have hmn := due_mono c S
      have hpp := due_pass c S (!low)
      have hnn := due_nonneg c S (!low)
      have hlp : c.verd S (c.due S (!low)) (!low) = 1 → c.last S (c.due S (!low)) (!low) = if (c.al && !low) = true then 2 else 1 := last_pass
      rw [CA.out] at hlp
      obtain ⟨D, hD⟩ : ∃ D, c.due S (!low) = D := ⟨_, rfl⟩
      obtain ⟨D0, hD0⟩ : ∃ D, c.due S true = D := ⟨_, rfl⟩
      obtain ⟨D1, hD1⟩ : ∃ D, c.due S false = D := ⟨_, rfl⟩
      rw [hD] at hpp hlp hnn
      rw [hD0, hD1] at hmn
      have dm : decide (D1 ≤ D0) = true := decide_eq_true hmn
      have HPP := Lib.hid hpp
      have HLP := Lib.hid hlp
      clear hpp hlp hT hmn
      by_cases hbig : 1152921504606846976 < D
      · have dd : decide (1152921504606846976 < D) = true := decide_eq_true hbig
        cases low
        all_goals
          clear hbig
          go_wp2_with (first
            | (go_at_call 30; (with_reducible refine (clp_any _ _ _).mono ?_); rintro e wc ⟨rfl, hb_wc⟩; have HPc := HP.below hb_wc; have bc := hb.trans (hb_wc.mono hb.size))
            | (go_at_call 33; (with_reducible refine (due_at (by decide) HPc hBd hD).mono ?_); rintro e wd ⟨rfl, hb_wd⟩; have bd := bc.trans (hb_wd.mono bc.size)))
          go_ret
          exact ⟨rfl, B_a.trans (bd.mono B_a.size)⟩
      · have dd : decide (1152921504606846976 < D) = false := decide_eq_false hbig
        have hl := HLP.out (HPP.out (by omega))
        by_cases hk : k = 7
        · have dk : (k == 7) = true := by simp [hk]
          cases low
          · have hl : c.last S D true = 2 := hl.trans (by simp [hk])
            clear hbig hk
            go_wp2_with (first
              | (go_at_call 30; (with_reducible refine (clp_any _ _ wr).mono ?_); rintro e wc ⟨rfl, hb_wc⟩; have HPc := HP.below hb_wc; have bc := hb.trans (hb_wc.mono hb.size); have q0c := cell_keep hb_wc q0)
              | (go_at_call 33; (with_reducible refine (due_at (w := wc) (by decide) HPc hBd hD).mono ?_); rintro e wd ⟨rfl, hb_wd⟩; have HPd := HPc.below hb_wd; have bd := bc.trans (hb_wd.mono bc.size); have q0d := cell_keep hb_wd q0c)
              | (go_at_call 33; (with_reducible refine (due_at (w := wd) (clp := 1) (by decide) HPd hBd hD1).mono ?_); rintro e we ⟨rfl, hb_we⟩; have HPe := HPd.below hb_we; have be := bd.trans (hb_we.mono bd.size))
              | (go_at_call 33; (with_reducible refine (due_at (w := we) (clp := 0) (by decide) HPe hBd hD0).mono ?_); rintro e wf ⟨rfl, hb_wf⟩; have HPf := HPe.below hb_wf; have bf := be.trans (hb_wf.mono be.size))
              | (go_at_call 29; (with_reducible refine (take_at (by decide) HPf hBd z0 z1 z2 z3 hl rfl rfl rfl rfl rfl).mono ?_); rintro e wt ⟨rfl, HPt, Gt⟩; have bt := bf.trans (bel_of Gt (Nat.le_refl _) bf.size)))
            go_ret
            exact ⟨ret_bool (by simp), B_a.trans (bt.mono B_a.size)⟩
          · have hl : c.last S D false = 1 := hl.trans (by simp)
            clear hbig hk
            go_wp2_with (first
              | (go_at_call 30; (with_reducible refine (clp_any _ _ wr).mono ?_); rintro e wc ⟨rfl, hb_wc⟩; have HPc := HP.below hb_wc; have bc := hb.trans (hb_wc.mono hb.size); have q0c := cell_keep hb_wc q0)
              | (go_at_call 33; (with_reducible refine (due_at (w := wc) (by decide) HPc hBd hD).mono ?_); rintro e wd ⟨rfl, hb_wd⟩; have HPd := HPc.below hb_wd; have bd := bc.trans (hb_wd.mono bc.size); have q0d := cell_keep hb_wd q0c)
              | (go_at_call 33; (with_reducible refine (due_at (w := wd) (clp := 1) (by decide) HPd hBd hD1).mono ?_); rintro e we ⟨rfl, hb_we⟩; have HPe := HPd.below hb_we; have be := bd.trans (hb_we.mono bd.size))
              | (go_at_call 33; (with_reducible refine (due_at (w := we) (clp := 0) (by decide) HPe hBd hD0).mono ?_); rintro e wf ⟨rfl, hb_wf⟩; have HPf := HPe.below hb_wf; have bf := be.trans (hb_wf.mono be.size))
              | (go_at_call 29; (with_reducible refine (take_at (by decide) HPf hBd z0 z1 z2 z3 hl rfl rfl rfl rfl rfl).mono ?_); rintro e wt ⟨rfl, HPt, Gt⟩; have bt := bf.trans (bel_of Gt (Nat.le_refl _) bf.size)))
            go_ret
            exact ⟨ret_bool (by simp), B_a.trans (bt.mono B_a.size)⟩
        · have dk : (k == 7) = false := by simp [hk]
          cases low
          · have hl : c.last S D true = 1 := hl.trans (by simp [hk])
            clear hbig hk
            go_wp2_with (first
              | (go_at_call 30; (with_reducible refine (clp_any _ _ wr).mono ?_); rintro e wc ⟨rfl, hb_wc⟩; have HPc := HP.below hb_wc; have bc := hb.trans (hb_wc.mono hb.size); have q0c := cell_keep hb_wc q0)
              | (go_at_call 33; (with_reducible refine (due_at (w := wc) (by decide) HPc hBd hD).mono ?_); rintro e wd ⟨rfl, hb_wd⟩; have HPd := HPc.below hb_wd; have bd := bc.trans (hb_wd.mono bc.size); have q0d := cell_keep hb_wd q0c)
              | (go_at_call 33; (with_reducible refine (due_at (w := wd) (clp := 1) (by decide) HPd hBd hD1).mono ?_); rintro e we ⟨rfl, hb_we⟩; have HPe := HPd.below hb_we; have be := bd.trans (hb_we.mono bd.size))
              | (go_at_call 33; (with_reducible refine (due_at (w := we) (clp := 0) (by decide) HPe hBd hD0).mono ?_); rintro e wf ⟨rfl, hb_wf⟩; have HPf := HPe.below hb_wf; have bf := be.trans (hb_wf.mono be.size))
              | (go_at_call 29; (with_reducible refine (take_at (by decide) HPf hBd z0 z1 z2 z3 hl rfl rfl rfl rfl rfl).mono ?_); rintro e wt ⟨rfl, HPt, Gt⟩; have bt := bf.trans (bel_of Gt (Nat.le_refl _) bf.size)))
            go_ret
            exact ⟨ret_bool (by simp), B_a.trans (bt.mono B_a.size)⟩
          · have hl : c.last S D false = 1 := hl.trans (by simp)
            clear hbig hk
            go_wp2_with (first
              | (go_at_call 30; (with_reducible refine (clp_any _ _ wr).mono ?_); rintro e wc ⟨rfl, hb_wc⟩; have HPc := HP.below hb_wc; have bc := hb.trans (hb_wc.mono hb.size); have q0c := cell_keep hb_wc q0)
              | (go_at_call 33; (with_reducible refine (due_at (w := wc) (by decide) HPc hBd hD).mono ?_); rintro e wd ⟨rfl, hb_wd⟩; have HPd := HPc.below hb_wd; have bd := bc.trans (hb_wd.mono bc.size); have q0d := cell_keep hb_wd q0c)
              | (go_at_call 33; (with_reducible refine (due_at (w := wd) (clp := 1) (by decide) HPd hBd hD1).mono ?_); rintro e we ⟨rfl, hb_we⟩; have HPe := HPd.below hb_we; have be := bd.trans (hb_we.mono bd.size))
              | (go_at_call 33; (with_reducible refine (due_at (w := we) (clp := 0) (by decide) HPe hBd hD0).mono ?_); rintro e wf ⟨rfl, hb_wf⟩; have HPf := HPe.below hb_wf; have bf := be.trans (hb_wf.mono be.size))
              | (go_at_call 29; (with_reducible refine (take_at (by decide) HPf hBd z0 z1 z2 z3 hl rfl rfl rfl rfl rfl).mono ?_); rintro e wt ⟨rfl, HPt, Gt⟩; have bt := bf.trans (bel_of Gt (Nat.le_refl _) bf.size)))
            go_ret
            exact ⟨ret_bool (by simp), B_a.trans (bt.mono B_a.size)⟩
namespace policeDue
theorem policeDue_any (k p e wh b l : Int) (a : Option Addr) (len cap : Nat) (cs : List Cl) (low : Bool) (w : World) (hA : ClAt w a len cs) (hlc : len ≤ cap) (hcm : cap ≤ maxLen) :
    Calls Try.prog 13 #[.agg #[.int .i64 k, .int .i64 p, .int .i64 e, .int .i64 wh, .int .i64 b, .int .i64 l], .slice a len cap, .bool low] w fun e w' => e = .returned (.bool true) ∧ Below w.heap.size w w' := by
  unfold maxLen at hcm
  by_cases h : 300 < len
  · exact policeDue_long k p e wh b l a len cap low w (by omega) h
  · by_cases hR : rightZ k p e wh b l = 0
    · exact policeDue_go k p e wh b l a len cap cs low w hA (by omega) hR
    · exact policeDue_bad k p e wh b l a len cap low w (by omega) _ rfl hR
end policeDue
end Go.Proofs.Ytndmmhljphlhjaa
