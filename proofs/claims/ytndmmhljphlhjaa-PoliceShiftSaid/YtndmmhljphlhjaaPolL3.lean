/- The walk of the law PoliceShift. -/
import Derived.Test.YtndmmhljphlhjaaPolQ
import Derived.Test.YtndmmhljphlhjaaLead
namespace Go.Proofs.Ytndmmhljphlhjaa
set_option linter.unusedVariables false
set_option linter.unusedSimpArgs false
open Go.RowKit
set_option maxRecDepth 100000
set_option maxHeartbeats 4000000
theorem policeShift_long (k p e wh b l : Int) (a : Option Addr) (len cap : Nat) (y : Int) (w : World) (h1 : len ≤ 9223372036854775807) (h3 : 300 < len) :
    Calls Try.prog 12 #[.agg #[.int .i64 k, .int .i64 p, .int .i64 e, .int .i64 wh, .int .i64 b, .int .i64 l], .slice a len cap, .int .u32 y] w fun e w' => e = .returned (.bool true) ∧ Below w.heap.size w w' := by
  have d1 : decide ((300 : Int) < (len : Int)) = true := decide_eq_true (by omega)
  go_enter Try.func12, Try.ntmps12
  go_wp2_with (go_at_call 27; refine (awake07 _).mono ?_; rintro e w' ⟨rfl, hb⟩; obtain ⟨hc, hf⟩ := bcell hb; have hz := hb.size; (try simp at hz); (try have hz1 : w.heap.size < w'.heap.size := by omega); (try have hz2 : w.heap.size + 1 < w'.heap.size := by omega))
  go_ret
  exact ⟨rfl, by (repeat' (first | exact Below.refl _ _ | assumption | (refine Below.grown ?_ (by assumption) (by first | omega | (simp; omega)) (by simp [Value.ownBlock]; try omega)) | (refine below_drewN ?_ _) | (refine Below.drew ?_) | (refine Below.alloc ?_ (by first | omega | (simp; done) | (simp; omega)) _) | (refine Below.setCell ?_ (by first | omega | (simp; done) | (simp; omega)) _) | (refine below_then ?_ (Aft.below _)) | (apply below_then; rotate_left; assumption)))⟩
theorem policeShift_bad (k p e wh b l : Int) (a : Option Addr) (len cap : Nat) (y : Int) (w : World) (h3 : len ≤ 300) (R : Int) (hR : rightZ k p e wh b l = R) (h0 : ¬ R = 0) :
    Calls Try.prog 12 #[.agg #[.int .i64 k, .int .i64 p, .int .i64 e, .int .i64 wh, .int .i64 b, .int .i64 l], .slice a len cap, .int .u32 y] w fun e w' => e = .returned (.bool true) ∧ Below w.heap.size w w' := by
  have d1 : decide ((300 : Int) < (len : Int)) = false := decide_eq_false (by omega)
  have d2 : (R != 0) = true := by simp [h0]
  go_enter Try.func12, Try.ntmps12
  go_wp2_with (first
    | (go_at_call 27; refine (awake07 _).mono ?_; rintro e wa ⟨rfl, hb_wa⟩; have BX := (Box6.new k p e wh b l _ w).below hb_wa; have B_a : Below w.heap.size w wa := ((Below.refl _ _).alloc (Nat.le_refl _) _).trans (hb_wa.mono (by simp)); clear hb_wa; obtain ⟨q0, q1, q2, q3, q4, q5⟩ := id BX)
    | (go_at_call 28; (with_reducible refine (newP_bad k p e wh b l wa R hR h0).mono ?_); rintro e w1 ⟨rfl, hb_w1⟩; have BX1 := BX.below hb_w1; obtain ⟨r0, r1, r2, r3, r4, r5⟩ := id BX1)
    | (go_at_call 28; (with_reducible refine (newP_bad k p e wh b l _ R hR h0).mono ?_); rintro e w2 ⟨rfl, hb_w2⟩))
  go_ret
  exact ⟨rfl, B_a.trans ((hb_w1.trans (hb_w2.mono hb_w1.size)).mono B_a.size)⟩
def CellP (g o : Nat) (x0 : Int) (low : Bool) (w : World) : Prop := w.cell? ⟨g, o, none⟩ = some (.int .u32 x0) ∧ w.cell? ⟨g, o + 1, none⟩ = some (.bool low)
theorem policeShift_go (k p e wh b l : Int) (a : Option Addr) (len cap : Nat) (cs : List Cl) (y : Int) (w : World) (hA : ClAt w a len cs) (y0 : 0 ≤ y) (y1 : y < 4294967296) (h3 : len ≤ 300) (hR : rightZ k p e wh b l = 0) :
    Calls Try.prog 12 #[.agg #[.int .i64 k, .int .i64 p, .int .i64 e, .int .i64 wh, .int .i64 b, .int .i64 l], .slice a len cap, .int .u32 y] w fun e w' => e = .returned (.bool true) ∧ Below w.heap.size w w' := by
  have d1 : decide ((300 : Int) < (len : Int)) = false := decide_eq_false (by omega)
  have ok := pz_ok hR
  have hgb := gapS_bd hA.fine
  have hgs : ∀ i x, cs[i]? = some x → gapS (cs.take (i + 1)) = gapS (cs.take i) + x.g := fun i x hx => gapS_step hx
  obtain ⟨c, hc⟩ : ∃ c, c = pzOf k p e wh b := ⟨_, rfl⟩
  rw [← hc] at ok
  have HC := Lib.hid hc
  have HB := Lib.hid hgb
  have HS := Lib.hid hgs
  clear hc hgb hgs
  go_enter Try.func12, Try.ntmps12
  go_wp2_with (first
    | (go_at_call 27; refine (awake07 _).mono ?_; rintro e wa ⟨rfl, hb_wa⟩; have BX := (Box6.new k p e wh b l _ w).below hb_wa; have A_a := (hA.below ((Below.refl _ _).alloc (Nat.le_refl _) _)).below hb_wa; have B_a : Below w.heap.size w wa := ((Below.refl _ _).alloc (Nat.le_refl _) _).trans (hb_wa.mono (by simp)); clear hb_wa; obtain ⟨q0, q1, q2, q3, q4, q5⟩ := id BX)
    | (go_at_call 28; (with_reducible refine (new_S k p e wh b l wa hR).mono ?_); rw [← HC.out]; rintro e w1 ⟨P, rfl, H1, hb_w1⟩; have BX1 := BX.below hb_w1; clear q0 q1 q2 q3 q4 q5 BX; obtain ⟨q0, q1, q2, q3, q4, q5⟩ := id BX1)
    | (go_at_call 28; (with_reducible refine (new_S k p e wh b l _ hR).mono ?_); rw [← HC.out]; rintro e w2 ⟨O, rfl, H2, hb_w2⟩; clear q0 q1 q2 q3 q4 q5 BX1))
  clear hA
  have L1 := hb_w1.size
  have L2 := hb_w2.size
  have H1 := H1.below hb_w2
  have b2 := hb_w1.trans (hb_w2.mono L1)
  go_loopw [11, 12, 41] (fun s11 s12 s41 wr => ∃ (i : Nat) (S S' : S4) (c0 c1 c2 c3 : Int), i ≤ len ∧ s41 = .int .i64 i ∧ s11 = .int .i64 (gapS (cs.take i)) ∧ PolS wa.heap.size w1.heap.size c S c0 c1 c2 c3 P wr ∧ PolS w1.heap.size w2.heap.size c S' c0 c1 c2 c3 O wr ∧ Sh y S S' ∧ Grw i S ∧ Grw i S' ∧ Cnt i c0 c1 c2 c3 ∧ Below wa.heap.size wa wr) (fun s11 s12 s41 wr => len - (intOf s41).toNat)
  case atStart => exact ⟨0, S4.zero, S4.zero, 0, 0, 0, 0, by omega, rfl, rfl, H1, H2, Sh.zero y, Grw.zero, Grw.zero, Cnt.zero, b2⟩
  case round =>
    obtain ⟨i, S, S', c0, c1, c2, c3, hi, rfl, rfl, HP, HO, hsh, hgr, hgr', hcn, hb⟩ := hrel
    have bg := HB.out i
    obtain ⟨T, hT⟩ : ∃ T, T = gapS (cs.take i) := ⟨_, rfl⟩
    rw [← hT] at bg ⊢
    have bT : 0 ≤ T ∧ T ≤ 1300000000000 := by omega
    obtain ⟨z0, z1, z2, z3⟩ := hcn.le (by omega)
    by_cases hlt : i < len
    · obtain ⟨g, off, rfl, hg, hcl⟩ := A_a.cells (by omega)
      obtain ⟨x, hx⟩ : ∃ x, cs[i]? = some x := ⟨_, List.getElem?_eq_getElem (by rw [A_a.length]; exact hlt)⟩
      have bx := A_a.fine x (List.mem_of_getElem? hx)
      have e0 := (hb.cell (p := ⟨g, off + i * 2, none⟩) hg).trans (hcl i x hx).1
      have e1 := (hb.cell (p := ⟨g, off + i * 2 + 1, none⟩) hg).trans (hcl i x hx).2
      have f0 := Lib.hid (hcl i x hx)
      have hnx : gapS (cs.take (i + 1)) = T + x.g := by rw [HS.out i x hx, ← hT]
      have HN := Lib.hid hnx
      have hg1 := hgr.step ok (T + x.g)
      have hg1' := hgr'.step ok (T + x.g + y)
      have hBd := hgr.le (by omega)
      have hBd' := hgr'.le (by omega)
      have st := sh_step (c := c) hsh y0 (t := T + x.g) (by omega) (by omega) (!x.low)
      obtain ⟨v, hv⟩ : ∃ v, c.last S (T + x.g) (!x.low) = v := ⟨_, rfl⟩
      have hv' : c.last S' (T + x.g + y) (!x.low) = v := by rw [← hv]; exact st.1
      have ST := Lib.hid st
      have hcn1 := hcn.step v
      obtain ⟨x0, low⟩ := x
      dsimp only at *
      clear hcl hx hnx hT st hsh
      cases low
      · have hl : c.last S (T + x0) true = v := hv
        have hl' : c.last S' (T + x0 + y) true = v := hv'
        go_wp2
        have S0 : CellP g (off + i * 2) x0 false wr.drew := ⟨e0, e1⟩
        refine wp_region_lead (CellP g (off + i * 2) x0 false) [6, 7, 17, 18, 19] [0, 1, 2, 3, 4, 5, 8, 9, 10, 11, 12, 13, 14, 15, 16, 6, 7, 17, 18, 19] _ (by kernel_rfl) (by kernel_rfl) (by kernel_rfl) (by simp only [List.filterMap_cons, List.getElem?_cons_zero, List.getElem?_cons_succ, Option.map_some, List.filterMap_nil]; rfl) rfl rfl S0 ?_
        have g0 := fun g' : Wits (CellP g (off + i * 2) x0 false) => (Wits.is g').1
        have g1 := fun g' : Wits (CellP g (off + i * 2) x0 false) => (Wits.is g').2
        refine lead_quiet_n 15 rfl S0 ?_
        intro _
        (simp only [List.take_succ_cons, List.take_zero, List.drop_succ_cons, List.drop_zero, List.map_cons, List.map_nil])
        (repeat (go_big_quiet_step (fail)))
        (refine wpQuiet_nil ?_)
        clear g0 g1
        have HP := HP.below (Below.drew (Below.refl wr.heap.size wr))
        have HO := HO.below (Below.drew (Below.refl wr.heap.size wr))
        have hb := hb.drew
        refine lead_one rfl ?_ S0
        go_wp2_with (go_at_call 30; (with_reducible refine (clp_any _ _ _).mono ?_); rintro e wc ⟨rfl, hb_wc⟩)
        have S1 : CellP g (off + i * 2) x0 false wc := ⟨cell_keep hb_wc S0.1, cell_keep hb_wc S0.2⟩
        have HPc := HP.below hb_wc
        have HOc := HO.below hb_wc
        have bc := hb.trans (hb_wc.mono hb.size)
        refine ⟨rfl, S1, ?_⟩
        refine lead_one rfl ?_ S1
        go_wp2_with (go_at_call 29; (with_reducible refine (take_at (z := true) (by decide) HPc hBd z0 z1 z2 z3 hl rfl rfl rfl rfl rfl).mono ?_); rintro e wt ⟨rfl, HPt, Gt⟩)
        have HOt := HOc.other Gt (fun k hk => by omega)
        have bt := bc.trans (bel_of Gt (Nat.le_refl _) bc.size)
        have S2 : CellP g (off + i * 2) x0 false wt := ⟨(bt.cell (p := ⟨g, off + i * 2, none⟩) hg).trans f0.out.1, (bt.cell (p := ⟨g, off + i * 2 + 1, none⟩) hg).trans f0.out.2⟩
        refine ⟨rfl, S2, ?_⟩
        refine lead_one rfl ?_ S2
        go_wp2_with (go_at_call 30; (with_reducible refine (clp_any _ _ _).mono ?_); rintro e wd ⟨rfl, hb_wd⟩)
        have S3 : CellP g (off + i * 2) x0 false wd := ⟨cell_keep hb_wd S2.1, cell_keep hb_wd S2.2⟩
        have HPd := HPt.below hb_wd
        have HOd := HOt.below hb_wd
        have bd := bt.trans (hb_wd.mono bt.size)
        refine ⟨rfl, S3, ?_⟩
        refine lead_one rfl ?_ S3
        go_wp2_with (go_at_call 29; (with_reducible refine (take_at (z := true) (by decide) HOd hBd' z0 z1 z2 z3 hl' rfl rfl rfl rfl rfl).mono ?_); rintro e wu ⟨rfl, HOu, Gu⟩)
        have HPu := HPd.other Gu (fun k hk => by omega)
        have bu := bd.trans (bel_of Gu L1 bd.size)
        have S4 : CellP g (off + i * 2) x0 false wu := ⟨(bu.cell (p := ⟨g, off + i * 2, none⟩) hg).trans f0.out.1, (bu.cell (p := ⟨g, off + i * 2 + 1, none⟩) hg).trans f0.out.2⟩
        refine ⟨rfl, S4, ?_⟩
        refine lead_one rfl ?_ S4
        go_wp2
        refine ⟨rfl, S4, ?_⟩
        refine lead_nil ?_
        go_wp2
        go_roundw
        case rel => exact ⟨i + 1, _, _, _, _, _, _, by omega, by go_num, by rw [HN.out], HPu, HOu, ST.out.2, hg1 true, hg1' true, hcn1, bu⟩
        case measure => simp [intOf]; omega
      · have hl : c.last S (T + x0) false = v := hv
        have hl' : c.last S' (T + x0 + y) false = v := hv'
        go_wp2
        have S0 : CellP g (off + i * 2) x0 true wr.drew := ⟨e0, e1⟩
        refine wp_region_lead (CellP g (off + i * 2) x0 true) [6, 7, 17, 18, 19] [0, 1, 2, 3, 4, 5, 8, 9, 10, 11, 12, 13, 14, 15, 16, 6, 7, 17, 18, 19] _ (by kernel_rfl) (by kernel_rfl) (by kernel_rfl) (by simp only [List.filterMap_cons, List.getElem?_cons_zero, List.getElem?_cons_succ, Option.map_some, List.filterMap_nil]; rfl) rfl rfl S0 ?_
        have g0 := fun g' : Wits (CellP g (off + i * 2) x0 true) => (Wits.is g').1
        have g1 := fun g' : Wits (CellP g (off + i * 2) x0 true) => (Wits.is g').2
        refine lead_quiet_n 15 rfl S0 ?_
        intro _
        (simp only [List.take_succ_cons, List.take_zero, List.drop_succ_cons, List.drop_zero, List.map_cons, List.map_nil])
        (repeat (go_big_quiet_step (fail)))
        (refine wpQuiet_nil ?_)
        clear g0 g1
        have HP := HP.below (Below.drew (Below.refl wr.heap.size wr))
        have HO := HO.below (Below.drew (Below.refl wr.heap.size wr))
        have hb := hb.drew
        refine lead_one rfl ?_ S0
        go_wp2_with (go_at_call 30; (with_reducible refine (clp_any _ _ _).mono ?_); rintro e wc ⟨rfl, hb_wc⟩)
        have S1 : CellP g (off + i * 2) x0 true wc := ⟨cell_keep hb_wc S0.1, cell_keep hb_wc S0.2⟩
        have HPc := HP.below hb_wc
        have HOc := HO.below hb_wc
        have bc := hb.trans (hb_wc.mono hb.size)
        refine ⟨rfl, S1, ?_⟩
        refine lead_one rfl ?_ S1
        go_wp2_with (go_at_call 29; (with_reducible refine (take_at (z := false) (by decide) HPc hBd z0 z1 z2 z3 hl rfl rfl rfl rfl rfl).mono ?_); rintro e wt ⟨rfl, HPt, Gt⟩)
        have HOt := HOc.other Gt (fun k hk => by omega)
        have bt := bc.trans (bel_of Gt (Nat.le_refl _) bc.size)
        have S2 : CellP g (off + i * 2) x0 true wt := ⟨(bt.cell (p := ⟨g, off + i * 2, none⟩) hg).trans f0.out.1, (bt.cell (p := ⟨g, off + i * 2 + 1, none⟩) hg).trans f0.out.2⟩
        refine ⟨rfl, S2, ?_⟩
        refine lead_one rfl ?_ S2
        go_wp2_with (go_at_call 30; (with_reducible refine (clp_any _ _ _).mono ?_); rintro e wd ⟨rfl, hb_wd⟩)
        have S3 : CellP g (off + i * 2) x0 true wd := ⟨cell_keep hb_wd S2.1, cell_keep hb_wd S2.2⟩
        have HPd := HPt.below hb_wd
        have HOd := HOt.below hb_wd
        have bd := bt.trans (hb_wd.mono bt.size)
        refine ⟨rfl, S3, ?_⟩
        refine lead_one rfl ?_ S3
        go_wp2_with (go_at_call 29; (with_reducible refine (take_at (z := false) (by decide) HOd hBd' z0 z1 z2 z3 hl' rfl rfl rfl rfl rfl).mono ?_); rintro e wu ⟨rfl, HOu, Gu⟩)
        have HPu := HPd.other Gu (fun k hk => by omega)
        have bu := bd.trans (bel_of Gu L1 bd.size)
        have S4 : CellP g (off + i * 2) x0 true wu := ⟨(bu.cell (p := ⟨g, off + i * 2, none⟩) hg).trans f0.out.1, (bu.cell (p := ⟨g, off + i * 2 + 1, none⟩) hg).trans f0.out.2⟩
        refine ⟨rfl, S4, ?_⟩
        refine lead_one rfl ?_ S4
        go_wp2
        refine ⟨rfl, S4, ?_⟩
        refine lead_nil ?_
        go_wp2
        go_roundw
        case rel => exact ⟨i + 1, _, _, _, _, _, _, by omega, by go_num, by rw [HN.out], HPu, HOu, ST.out.2, hg1 false, hg1' false, hcn1, bu⟩
        case measure => simp [intOf]; omega
    · obtain rfl : len = i := by omega
      have he : ∀ w, (binOp .eql 55 (.agg #[.int .i64 c0, .int .i64 c1, .int .i64 c2, .int .i64 c3]) (.agg #[.int .i64 c0, .int .i64 c1, .int .i64 c2, .int .i64 c3])).run Try.prog w = .ok (.bool true) w := eq_fourI (by simp) (by simp; exact ⟨z0, z1, z2, z3⟩) (by simp; exact ⟨z0, z1, z2, z3⟩)
      go_wp2_with (first
        | (go_at_call 32; (with_reducible refine (counts_S _ HP).mono ?_); rintro e wc ⟨rfl, hb_wc⟩; have HOc := HO.below hb_wc; have bc := hb.trans (hb_wc.mono hb.size))
        | (go_at_call 32; (with_reducible refine (counts_S _ HOc).mono ?_); rintro e wd ⟨rfl, hb_wd⟩; have bd := bc.trans (hb_wd.mono bc.size)))
      go_ret
      exact ⟨ret_bool (by simp), B_a.trans (bd.mono B_a.size)⟩
namespace policeShift
theorem policeShift_any (k p e wh b l : Int) (a : Option Addr) (len cap : Nat) (cs : List Cl) (y : Int) (w : World) (hA : ClAt w a len cs) (hlc : len ≤ cap) (hcm : cap ≤ maxLen) (y0 : 0 ≤ y) (y1 : y < 4294967296) :
    Calls Try.prog 12 #[.agg #[.int .i64 k, .int .i64 p, .int .i64 e, .int .i64 wh, .int .i64 b, .int .i64 l], .slice a len cap, .int .u32 y] w fun e w' => e = .returned (.bool true) ∧ Below w.heap.size w w' := by
  unfold maxLen at hcm
  by_cases h : 300 < len
  · exact policeShift_long k p e wh b l a len cap y w (by omega) h
  · by_cases hR : rightZ k p e wh b l = 0
    · exact policeShift_go k p e wh b l a len cap cs y w hA y0 y1 (by omega) hR
    · exact policeShift_bad k p e wh b l a len cap y w (by omega) _ rfl hR
end policeShift
end Go.Proofs.Ytndmmhljphlhjaa
