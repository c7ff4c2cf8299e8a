/- The walk of the law PoliceWindows. -/
import Derived.Test.YtndmmhljphlhjaaPolI
namespace Go.Proofs.Ytndmmhljphlhjaa
set_option linter.unusedVariables false
set_option linter.unusedSimpArgs false
open Go.RowKit
set_option maxRecDepth 100000
set_option maxHeartbeats 4000000
theorem policeWindows_long (k p e wh b l : Int) (a : Option Addr) (len cap : Nat) (w : World) (h1 : len ≤ 9223372036854775807) (h3 : 300 < len) :
    Calls Try.prog 9 #[.agg #[.int .i64 k, .int .i64 p, .int .i64 e, .int .i64 wh, .int .i64 b, .int .i64 l], .slice a len cap] w fun e w' => e = .returned (.bool true) ∧ Below w.heap.size w w' := by
  have d1 : decide ((300 : Int) < (len : Int)) = true := decide_eq_true (by omega)
  go_enter Try.func9, Try.ntmps9
  go_wp2_with (go_at_call 27; refine (awake07 _).mono ?_; rintro e w' ⟨rfl, hb⟩; obtain ⟨hc, hf⟩ := bcell hb; have hz := hb.size; (try simp at hz); (try have hz1 : w.heap.size < w'.heap.size := by omega); (try have hz2 : w.heap.size + 1 < w'.heap.size := by omega))
  go_ret
  exact ⟨rfl, by (repeat' (first | exact Below.refl _ _ | assumption | (refine Below.grown ?_ (by assumption) (by first | omega | (simp; omega)) (by simp [Value.ownBlock]; try omega)) | (refine below_drewN ?_ _) | (refine Below.drew ?_) | (refine Below.alloc ?_ (by first | omega | (simp; done) | (simp; omega)) _) | (refine Below.setCell ?_ (by first | omega | (simp; done) | (simp; omega)) _) | (refine below_then ?_ (Aft.below _)) | (apply below_then; rotate_left; assumption)))⟩
theorem policeWindows_bad (k p e wh b l : Int) (a : Option Addr) (len cap : Nat) (w : World) (h3 : len ≤ 300) (R : Int) (hR : rightZ k p e wh b l = R) (h0 : ¬ R = 0) :
    Calls Try.prog 9 #[.agg #[.int .i64 k, .int .i64 p, .int .i64 e, .int .i64 wh, .int .i64 b, .int .i64 l], .slice a len cap] w fun e w' => e = .returned (.bool true) ∧ Below w.heap.size w w' := by
  have d1 : decide ((300 : Int) < (len : Int)) = false := decide_eq_false (by omega)
  have d2 : (R != 0) = true := by simp [h0]
  go_enter Try.func9, Try.ntmps9
  go_wp2_with (first | (go_at_call 27; refine (awake07 _).mono ?_; rintro e w' ⟨rfl, hb⟩; obtain ⟨hc, hf⟩ := bcell hb; have hz := hb.size; (try simp at hz); (try have hz1 : w.heap.size < w'.heap.size := by omega); (try have hz2 : w.heap.size + 1 < w'.heap.size := by omega)) | (go_at_call 28; (with_reducible refine (newP_bad k p e wh b l _ R hR h0).mono ?_); rintro e w1 ⟨rfl, hb_w1⟩))
  go_ret
  exact ⟨rfl, by (repeat' (first | exact Below.refl _ _ | assumption | (refine Below.grown ?_ (by assumption) (by first | omega | (simp; omega)) (by simp [Value.ownBlock]; try omega)) | (refine below_drewN ?_ _) | (refine Below.drew ?_) | (refine Below.alloc ?_ (by first | omega | (simp; done) | (simp; omega)) _) | (refine Below.setCell ?_ (by first | omega | (simp; done) | (simp; omega)) _) | (refine below_then ?_ (Aft.below _)) | (apply below_then; rotate_left; assumption)))⟩
theorem PolS.lift {lo hi : Nat} {c : Pz} {S : S4} {c0 c1 c2 c3 : Int} {P : Nat} {w w' : World} (h : PolS lo hi c S c0 c1 c2 c3 P w) (hb : Below hi w w') : PolS lo hi c S c0 c1 c2 c3 P w' := by
  obtain ⟨ra, cap, b1, b2, hn, h1, h2, h3, h4, ok, hP⟩ := h
  refine ⟨ra, cap, b1, b2, hn, h1, h2, h3, h4, ok, ⟨(hb.block P h1.2).trans hP.row, fun i r hr => ?_, Nat.lt_of_lt_of_le hP.rlt hb.size, fun r hr => ?_⟩⟩
  · have g := hP.rules i r hr
    have hk := hb.block ra h2.2
    exact ⟨(World.cell?_of_block hk).trans g.c0, (World.cell?_of_block hk).trans g.c1, (World.cell?_of_block hk).trans g.c2, (World.cell?_of_block hk).trans g.c3, (World.cell?_of_block hk).trans g.c4⟩
  · have g := hP.bucks r hr
    refine (hb.block r.b ?_).trans g
    rcases Pz.mem hr with rfl | ⟨hh, rfl⟩
    · exact h3.2
    · exact (h4 hh).2
def LB (us zs : List Int) (i : Nat) : Prop := us.length ≤ i ∧ zs.length ≤ i ∧ (∀ x ∈ us, 0 ≤ x ∧ x ≤ 1300000000000) ∧ (∀ x ∈ zs, 0 ≤ x ∧ x ≤ 1300000000000)
theorem mem_snoc {us : List Int} {t : Int} (h : ∀ x ∈ us, 0 ≤ x ∧ x ≤ 1300000000000) (ht : 0 ≤ t ∧ t ≤ 1300000000000) : ∀ x ∈ us ++ [t], 0 ≤ x ∧ x ≤ 1300000000000 := fun x hx => by
  rcases List.mem_append.1 hx with hx | hx
  · exact h x hx
  · simp at hx; subst hx; exact ht
theorem LB.s0 {us zs : List Int} {i : Nat} (h : LB us zs i) : LB us zs (i + 1) := ⟨by have := h.1; omega, by have := h.2.1; omega, h.2.2.1, h.2.2.2⟩
theorem LB.s1 {us zs : List Int} {i : Nat} {t : Int} (h : LB us zs i) (ht : 0 ≤ t ∧ t ≤ 1300000000000) : LB (us ++ [t]) zs (i + 1) := ⟨by have := h.1; simp; omega, by have := h.2.1; omega, mem_snoc h.2.2.1 ht, h.2.2.2⟩
theorem LB.s2 {us zs : List Int} {i : Nat} {t : Int} (h : LB us zs i) (ht : 0 ≤ t ∧ t ≤ 1300000000000) : LB (us ++ [t]) (zs ++ [t]) (i + 1) := ⟨by have := h.1; simp; omega, by have := h.2.1; simp; omega, mem_snoc h.2.2.1 ht, mem_snoc h.2.2.2 ht⟩
theorem policeWindows_go (k p e wh b l : Int) (a : Option Addr) (len cap : Nat) (cs : List Cl) (w : World) (hA : ClAt w a len cs) (h3 : len ≤ 300) (hR : rightZ k p e wh b l = 0) :
    Calls Try.prog 9 #[.agg #[.int .i64 k, .int .i64 p, .int .i64 e, .int .i64 wh, .int .i64 b, .int .i64 l], .slice a len cap] w fun e w' => e = .returned (.bool true) ∧ Below w.heap.size w w' := by
  have d1 : decide ((300 : Int) < (len : Int)) = false := decide_eq_false (by omega)
  have ok := pz_ok hR
  have hgb := gapS_bd hA.fine
  have hgs : ∀ i x, cs[i]? = some x → gapS (cs.take (i + 1)) = gapS (cs.take i) + x.g := fun i x hx => gapS_step hx
  obtain ⟨c, hc⟩ : ∃ c, c = pzOf k p e wh b := ⟨_, rfl⟩
  rw [← hc] at ok
  have hwk : WK c k := by rw [hc]; exact wk_of k p e wh b
  have hcs : c.s1 = p ∧ c.s2 = wh ∧ c.e1 = e ∧ c.e2 = b + e := by rw [hc]; exact ⟨rfl, rfl, rfl, rfl⟩
  obtain ⟨⟨p0, p1, e0, e1⟩, hF⟩ := rightZ_zero.1 hR
  have HF := Lib.hid hF
  have HC := Lib.hid hc
  have HCS := Lib.hid hcs
  have HB := Lib.hid hgb
  have HS := Lib.hid hgs
  clear hc hgb hgs hcs hF
  go_enter Try.func9, Try.ntmps9
  go_wp2_with (first
    | (go_at_call 27; refine (awake07 _).mono ?_; rintro e wa ⟨rfl, hb_wa⟩; have BX := (Box6.new k p e wh b l _ w).below hb_wa; have A_a := (hA.below ((Below.refl _ _).alloc (Nat.le_refl _) _)).below hb_wa; have B_a : Below w.heap.size w wa := ((Below.refl _ _).alloc (Nat.le_refl _) _).trans (hb_wa.mono (by simp)); clear hb_wa; obtain ⟨q0, q1, q2, q3, q4, q5⟩ := id BX)
    | (go_at_call 28; (with_reducible refine (new_S k p e wh b l _ hR).mono ?_); rw [← HC.out]; rintro e w1 ⟨P, rfl, H1, hb_w1⟩; clear q0 q1 q2 q3 q4 q5))
  clear hA
  have L1 := hb_w1.size
  go_loopw [7, 8, 9, 10, 11, 31] (fun s7 s8 s9 s10 s11 s31 wr => ∃ (i : Nat) (S : S4) (c0 c1 c2 c3 : Int) (us zs : List Int), i ≤ len ∧ s31 = .int .i64 i ∧ s7 = .int .i64 (gapS (cs.take i)) ∧ PolS wa.heap.size w1.heap.size c S c0 c1 c2 c3 P wr ∧ Wnv c k S us zs ∧ Grw i S ∧ Cnt i c0 c1 c2 c3 ∧ TwoI w1.heap.size s8 s9 us zs wr ∧ LB us zs i ∧ Below wa.heap.size wa wr ∧ w1.heap.size ≤ wr.heap.size) (fun s7 s8 s9 s10 s11 s31 wr => len - (intOf s31).toNat)
  case atStart => exact ⟨0, S4.zero, 0, 0, 0, 0, [], [], by omega, rfl, rfl, H1, Wnv.zero c k, Grw.zero, Cnt.zero, TwoI.nil _ _, ⟨by simp, by simp, by simp, by simp⟩, hb_w1, Nat.le_refl _⟩
  case round =>
    obtain ⟨i, S, c0, c1, c2, c3, us, zs, hi, rfl, rfl, HP, hW, hgr, hcn, hT, hLB, hb, hLb⟩ := hrel
    have bg := HB.out i
    obtain ⟨T, hTT⟩ : ∃ T, T = gapS (cs.take i) := ⟨_, rfl⟩
    rw [← hTT] at bg ⊢
    have bT : 0 ≤ T ∧ T ≤ 1290000000000 := by omega
    obtain ⟨z0, z1, z2, z3⟩ := hcn.le (by omega)
    have hBd := hgr.le (by omega)
    have hus := hLB.1
    have hzs := hLB.2.1
    by_cases hlt : i < len
    · obtain ⟨g, off, rfl, hg, hcl⟩ := A_a.cells (by omega)
      obtain ⟨x, hx⟩ : ∃ x, cs[i]? = some x := ⟨_, List.getElem?_eq_getElem (by rw [A_a.length]; exact hlt)⟩
      have bx := A_a.fine x (List.mem_of_getElem? hx)
      have e0 := (hb.cell (p := ⟨g, off + i * 2, none⟩) hg).trans (hcl i x hx).1
      have e1 := (hb.cell (p := ⟨g, off + i * 2 + 1, none⟩) hg).trans (hcl i x hx).2
      have f0 := Lib.hid (hcl i x hx)
      have hnx : gapS (cs.take (i + 1)) = T + x.g := by rw [HS.out i x hx, ← hTT]
      have HN := Lib.hid hnx
      have hg1 := hgr.step ok (T + x.g)
      have hlx := last_ex c S (T + x.g) (!x.low)
      obtain ⟨x0, low⟩ := x
      dsimp only at *
      clear hcl hx hnx hTT
      cases low
      · rcases hlx with hl | hl | hl
        · have hl : c.last S (T + x0) true = 1 := hl
          have WN := wnv_step ok hwk hW (t := T + x0) (by omega) (by omega) true
          rw [hl] at WN
          have WN := Lib.hid WN
          go_wp2_with (first
            | (go_at_call 30; (with_reducible refine (clp_any _ _ wr).mono ?_); rintro e wc ⟨rfl, hb_wc⟩; have HPc := HP.below hb_wc; have Tc := hT.below hb_wc; have bc := hb.trans (hb_wc.mono hb.size); have Lc := Nat.le_trans hLb hb_wc.size)
            | (go_at_call 29; (with_reducible refine (take_at (z := true) (by decide) HPc hBd z0 z1 z2 z3 hl rfl rfl rfl rfl rfl).mono ?_); rintro e wt ⟨rfl, HPt, Gt⟩; have Tt := Tc.chg Gt (fun k hk => hk.2); have bt := bc.trans (bel_of Gt (Nat.le_refl _) bc.size); have Lt := Nat.le_trans Lc Gt.size; have e1t := (bt.cell (p := ⟨g, off + i * 2 + 1, none⟩) hg).trans f0.out.2)
            | (at_builtin; have TX := Tt.below ((Below.refl wt.heap.size wt).alloc (Nat.le_refl _) (.cells #[.int .i64 (T + x0)] 3)); refine wpList_append_int_at rfl _ _ rfl (v := u8) (n := us.length) (xs := us) (b := wt.heap.size) (z := T + x0) (base := w1.heap.size) rfl TX.1 rfl ?hc (by omega) ?hbase ?_; (case hc => exact cell_top rfl rfl); (case hbase => (simp; omega)); intro v8 wx O8 G8 bx8 A8; have Tx := TX.app1 O8 G8 A8; have b8 := (Below.refl w1.heap.size wt).alloc Lt (.cells #[.int .i64 (T + x0)] 3); have HPx := PolS.lift HPt (b8.trans bx8); have bX := bt.trans ((b8.trans bx8).mono L1); have Lx := Nat.le_trans Lt (b8.trans bx8).size; have e1x := (bX.cell (p := ⟨g, off + i * 2 + 1, none⟩) hg).trans f0.out.2)
            | (at_builtin; have TY := Tx.below ((Below.refl wx.heap.size wx).alloc (Nat.le_refl _) (.cells #[.int .i64 (T + x0)] 3)); refine wpList_append_int_at rfl _ _ rfl (v := u9) (n := zs.length) (xs := zs) (b := wx.heap.size) (z := T + x0) (base := w1.heap.size) rfl TY.2.1 rfl ?hc (by omega) ?hbase ?_; (case hc => exact cell_top rfl rfl); (case hbase => (simp; omega)); intro v9 wy O9 G9 by9 A9; have Ty := TY.app2 O9 G9 A9; have b9 := (Below.refl w1.heap.size wx).alloc Lx (.cells #[.int .i64 (T + x0)] 3); have HPy := PolS.lift HPx (b9.trans by9); have bY := bX.trans ((b9.trans by9).mono L1); have Ly := Nat.le_trans Lx (b9.trans by9).size))
          go_roundw
          case rel => exact ⟨i + 1, c.nxt S (T + x0) true, _, _, _, _, (us ++ [T + x0]), (zs ++ [T + x0]), by omega, by go_num, by rw [HN.out], HPy, by simpa using WN.out, hg1 true, hcn.step _, Ty, hLB.s2 (by omega), bY, Ly⟩
          case measure => simp [intOf]; omega
        · have hl : c.last S (T + x0) true = 2 := hl
          have WN := wnv_step ok hwk hW (t := T + x0) (by omega) (by omega) true
          rw [hl] at WN
          have WN := Lib.hid WN
          go_wp2_with (first
            | (go_at_call 30; (with_reducible refine (clp_any _ _ wr).mono ?_); rintro e wc ⟨rfl, hb_wc⟩; have HPc := HP.below hb_wc; have Tc := hT.below hb_wc; have bc := hb.trans (hb_wc.mono hb.size); have Lc := Nat.le_trans hLb hb_wc.size)
            | (go_at_call 29; (with_reducible refine (take_at (z := true) (by decide) HPc hBd z0 z1 z2 z3 hl rfl rfl rfl rfl rfl).mono ?_); rintro e wt ⟨rfl, HPt, Gt⟩; have Tt := Tc.chg Gt (fun k hk => hk.2); have bt := bc.trans (bel_of Gt (Nat.le_refl _) bc.size); have Lt := Nat.le_trans Lc Gt.size; have e1t := (bt.cell (p := ⟨g, off + i * 2 + 1, none⟩) hg).trans f0.out.2)
            | (at_builtin; have TX := Tt.below ((Below.refl wt.heap.size wt).alloc (Nat.le_refl _) (.cells #[.int .i64 (T + x0)] 3)); refine wpList_append_int_at rfl _ _ rfl (v := u8) (n := us.length) (xs := us) (b := wt.heap.size) (z := T + x0) (base := w1.heap.size) rfl TX.1 rfl ?hc (by omega) ?hbase ?_; (case hc => exact cell_top rfl rfl); (case hbase => (simp; omega)); intro v8 wx O8 G8 bx8 A8; have Tx := TX.app1 O8 G8 A8; have b8 := (Below.refl w1.heap.size wt).alloc Lt (.cells #[.int .i64 (T + x0)] 3); have HPx := PolS.lift HPt (b8.trans bx8); have bX := bt.trans ((b8.trans bx8).mono L1); have Lx := Nat.le_trans Lt (b8.trans bx8).size; have e1x := (bX.cell (p := ⟨g, off + i * 2 + 1, none⟩) hg).trans f0.out.2))
          go_roundw
          case rel => exact ⟨i + 1, c.nxt S (T + x0) true, _, _, _, _, (us ++ [T + x0]), zs, by omega, by go_num, by rw [HN.out], HPx, by simpa using WN.out, hg1 true, hcn.step _, Tx, hLB.s1 (by omega), bX, Lx⟩
          case measure => simp [intOf]; omega
        · have hl : c.last S (T + x0) true = 3 := hl
          have WN := wnv_step ok hwk hW (t := T + x0) (by omega) (by omega) true
          rw [hl] at WN
          have WN := Lib.hid WN
          go_wp2_with (first
            | (go_at_call 30; (with_reducible refine (clp_any _ _ wr).mono ?_); rintro e wc ⟨rfl, hb_wc⟩; have HPc := HP.below hb_wc; have Tc := hT.below hb_wc; have bc := hb.trans (hb_wc.mono hb.size); have Lc := Nat.le_trans hLb hb_wc.size)
            | (go_at_call 29; (with_reducible refine (take_at (z := true) (by decide) HPc hBd z0 z1 z2 z3 hl rfl rfl rfl rfl rfl).mono ?_); rintro e wt ⟨rfl, HPt, Gt⟩; have Tt := Tc.chg Gt (fun k hk => hk.2); have bt := bc.trans (bel_of Gt (Nat.le_refl _) bc.size); have Lt := Nat.le_trans Lc Gt.size; have e1t := (bt.cell (p := ⟨g, off + i * 2 + 1, none⟩) hg).trans f0.out.2))
          go_roundw
          case rel => exact ⟨i + 1, c.nxt S (T + x0) true, _, _, _, _, us, zs, by omega, by go_num, by rw [HN.out], HPt, by simpa using WN.out, hg1 true, hcn.step _, Tt, hLB.s0, bt, Lt⟩
          case measure => simp [intOf]; omega
      · rcases hlx with hl | hl | hl
        · have hl : c.last S (T + x0) false = 1 := hl
          have WN := wnv_step ok hwk hW (t := T + x0) (by omega) (by omega) false
          rw [hl] at WN
          have WN := Lib.hid WN
          go_wp2_with (first
            | (go_at_call 30; (with_reducible refine (clp_any _ _ wr).mono ?_); rintro e wc ⟨rfl, hb_wc⟩; have HPc := HP.below hb_wc; have Tc := hT.below hb_wc; have bc := hb.trans (hb_wc.mono hb.size); have Lc := Nat.le_trans hLb hb_wc.size)
            | (go_at_call 29; (with_reducible refine (take_at (z := false) (by decide) HPc hBd z0 z1 z2 z3 hl rfl rfl rfl rfl rfl).mono ?_); rintro e wt ⟨rfl, HPt, Gt⟩; have Tt := Tc.chg Gt (fun k hk => hk.2); have bt := bc.trans (bel_of Gt (Nat.le_refl _) bc.size); have Lt := Nat.le_trans Lc Gt.size; have e1t := (bt.cell (p := ⟨g, off + i * 2 + 1, none⟩) hg).trans f0.out.2)
            | (at_builtin; have TX := Tt.below ((Below.refl wt.heap.size wt).alloc (Nat.le_refl _) (.cells #[.int .i64 (T + x0)] 3)); refine wpList_append_int_at rfl _ _ rfl (v := u8) (n := us.length) (xs := us) (b := wt.heap.size) (z := T + x0) (base := w1.heap.size) rfl TX.1 rfl ?hc (by omega) ?hbase ?_; (case hc => exact cell_top rfl rfl); (case hbase => (simp; omega)); intro v8 wx O8 G8 bx8 A8; have Tx := TX.app1 O8 G8 A8; have b8 := (Below.refl w1.heap.size wt).alloc Lt (.cells #[.int .i64 (T + x0)] 3); have HPx := PolS.lift HPt (b8.trans bx8); have bX := bt.trans ((b8.trans bx8).mono L1); have Lx := Nat.le_trans Lt (b8.trans bx8).size; have e1x := (bX.cell (p := ⟨g, off + i * 2 + 1, none⟩) hg).trans f0.out.2))
          go_roundw
          case rel => exact ⟨i + 1, c.nxt S (T + x0) false, _, _, _, _, (us ++ [T + x0]), zs, by omega, by go_num, by rw [HN.out], HPx, by simpa using WN.out, hg1 false, hcn.step _, Tx, hLB.s1 (by omega), bX, Lx⟩
          case measure => simp [intOf]; omega
        · have hl : c.last S (T + x0) false = 2 := hl
          have WN := wnv_step ok hwk hW (t := T + x0) (by omega) (by omega) false
          rw [hl] at WN
          have WN := Lib.hid WN
          go_wp2_with (first
            | (go_at_call 30; (with_reducible refine (clp_any _ _ wr).mono ?_); rintro e wc ⟨rfl, hb_wc⟩; have HPc := HP.below hb_wc; have Tc := hT.below hb_wc; have bc := hb.trans (hb_wc.mono hb.size); have Lc := Nat.le_trans hLb hb_wc.size)
            | (go_at_call 29; (with_reducible refine (take_at (z := false) (by decide) HPc hBd z0 z1 z2 z3 hl rfl rfl rfl rfl rfl).mono ?_); rintro e wt ⟨rfl, HPt, Gt⟩; have Tt := Tc.chg Gt (fun k hk => hk.2); have bt := bc.trans (bel_of Gt (Nat.le_refl _) bc.size); have Lt := Nat.le_trans Lc Gt.size; have e1t := (bt.cell (p := ⟨g, off + i * 2 + 1, none⟩) hg).trans f0.out.2)
            | (at_builtin; have TX := Tt.below ((Below.refl wt.heap.size wt).alloc (Nat.le_refl _) (.cells #[.int .i64 (T + x0)] 3)); refine wpList_append_int_at rfl _ _ rfl (v := u8) (n := us.length) (xs := us) (b := wt.heap.size) (z := T + x0) (base := w1.heap.size) rfl TX.1 rfl ?hc (by omega) ?hbase ?_; (case hc => exact cell_top rfl rfl); (case hbase => (simp; omega)); intro v8 wx O8 G8 bx8 A8; have Tx := TX.app1 O8 G8 A8; have b8 := (Below.refl w1.heap.size wt).alloc Lt (.cells #[.int .i64 (T + x0)] 3); have HPx := PolS.lift HPt (b8.trans bx8); have bX := bt.trans ((b8.trans bx8).mono L1); have Lx := Nat.le_trans Lt (b8.trans bx8).size; have e1x := (bX.cell (p := ⟨g, off + i * 2 + 1, none⟩) hg).trans f0.out.2))
          go_roundw
          case rel => exact ⟨i + 1, c.nxt S (T + x0) false, _, _, _, _, (us ++ [T + x0]), zs, by omega, by go_num, by rw [HN.out], HPx, by simpa using WN.out, hg1 false, hcn.step _, Tx, hLB.s1 (by omega), bX, Lx⟩
          case measure => simp [intOf]; omega
        · have hl : c.last S (T + x0) false = 3 := hl
          have WN := wnv_step ok hwk hW (t := T + x0) (by omega) (by omega) false
          rw [hl] at WN
          have WN := Lib.hid WN
          go_wp2_with (first
            | (go_at_call 30; (with_reducible refine (clp_any _ _ wr).mono ?_); rintro e wc ⟨rfl, hb_wc⟩; have HPc := HP.below hb_wc; have Tc := hT.below hb_wc; have bc := hb.trans (hb_wc.mono hb.size); have Lc := Nat.le_trans hLb hb_wc.size)
            | (go_at_call 29; (with_reducible refine (take_at (z := false) (by decide) HPc hBd z0 z1 z2 z3 hl rfl rfl rfl rfl rfl).mono ?_); rintro e wt ⟨rfl, HPt, Gt⟩; have Tt := Tc.chg Gt (fun k hk => hk.2); have bt := bc.trans (bel_of Gt (Nat.le_refl _) bc.size); have Lt := Nat.le_trans Lc Gt.size; have e1t := (bt.cell (p := ⟨g, off + i * 2 + 1, none⟩) hg).trans f0.out.2))
          go_roundw
          case rel => exact ⟨i + 1, c.nxt S (T + x0) false, _, _, _, _, us, zs, by omega, by go_num, by rw [HN.out], HPt, by simpa using WN.out, hg1 false, hcn.step _, Tt, hLB.s0, bt, Lt⟩
          case measure => simp [intOf]; omega
    · obtain rfl : len = i := by omega
      clear hTT
      obtain ⟨a8, c8, rfl, _, _, I8, _, _⟩ := hT.1.at (by omega)
      obtain ⟨a9, c9, rfl, _, _, I9, _, _⟩ := hT.2.1.at (by omega)
      obtain ⟨q0, q1, q2, q3, q4, q5⟩ := BX.below hb
      have B8 := hLB.2.2.1
      have B9 := hLB.2.2.2
      have W1 := hW.1.win
      rw [HCS.out.1, HCS.out.2.2.1] at W1
      by_cases hk2 : k = 2
      · have hF' := HF.out
        have q : 1 ≤ wh ∧ wh ≤ 1099511627776 ∧ 0 ≤ b ∧ b ≤ 1099511627776 := by omega
        have d2 : (k == 2) = true := by simp; exact hk2
        have W2 := (hW.2.1 hk2).win
        rw [HCS.out.2.1, HCS.out.2.2.2] at W2
        clear hk2 hF'
        go_wp2_with (first
          | (go_at_call 31; (with_reducible refine (windows_any a8 us.length c8 us p e wr I8 (by omega) p0 p1 e0 (by omega) B8 W1).mono ?_); rintro en wc ⟨rfl, hb_wc⟩; have I8c := I8.below hb_wc; have I9c := I9.below hb_wc; have bc := hb.trans (hb_wc.mono hb.size); obtain ⟨r0, r1, r2, r3, r4, r5⟩ := BX.below bc)
          | (go_at_call 31; (with_reducible refine (windows_any a8 us.length c8 us wh (b + e) wc I8c (by omega) (by omega) (by omega) (by omega) (by omega) B8 W2).mono ?_); rintro en wd ⟨rfl, hb_wd⟩; have bd := bc.trans (hb_wd.mono bc.size)))
        go_ret
        exact ⟨rfl, B_a.trans (bd.mono B_a.size)⟩
      · by_cases hk3 : k = 3
        · have hF' := HF.out
          have q : 1 ≤ wh ∧ wh ≤ 1099511627776 ∧ 0 ≤ b ∧ b ≤ 1099511627776 := by omega
          have d2 : (k == 2) = false := by simp; omega
          have d3 : (k == 3) = true := by simp; exact hk3
          have W3 := (hW.2.2 (by omega)).win
          rw [HCS.out.2.1, HCS.out.2.2.2] at W3
          clear hk2 hk3 hF'
          go_wp2_with (first
            | (go_at_call 31; (with_reducible refine (windows_any a8 us.length c8 us p e wr I8 (by omega) p0 p1 e0 (by omega) B8 W1).mono ?_); rintro en wc ⟨rfl, hb_wc⟩; have I8c := I8.below hb_wc; have I9c := I9.below hb_wc; have bc := hb.trans (hb_wc.mono hb.size); obtain ⟨r0, r1, r2, r3, r4, r5⟩ := BX.below bc)
            | (go_at_call 31; (with_reducible refine (windows_any a9 zs.length c9 zs wh (b + e) wc I9c (by omega) (by omega) (by omega) (by omega) (by omega) B9 W3).mono ?_); rintro en wd ⟨rfl, hb_wd⟩; have bd := bc.trans (hb_wd.mono bc.size)))
          go_ret
          exact ⟨rfl, B_a.trans (bd.mono B_a.size)⟩
        · by_cases hk4 : k = 4
          · have hF' := HF.out
            have q : 1 ≤ wh ∧ wh ≤ 1099511627776 ∧ 0 ≤ b ∧ b ≤ 1099511627776 := by omega
            have d2 : (k == 2) = false := by simp; omega
            have d3 : (k == 3) = false := by simp; omega
            have d4 : (k == 4) = true := by simp; exact hk4
            have W3 := (hW.2.2 (by omega)).win
            rw [HCS.out.2.1, HCS.out.2.2.2] at W3
            clear hk2 hk3 hk4 hF'
            go_wp2_with (first
              | (go_at_call 31; (with_reducible refine (windows_any a8 us.length c8 us p e wr I8 (by omega) p0 p1 e0 (by omega) B8 W1).mono ?_); rintro en wc ⟨rfl, hb_wc⟩; have I8c := I8.below hb_wc; have I9c := I9.below hb_wc; have bc := hb.trans (hb_wc.mono hb.size); obtain ⟨r0, r1, r2, r3, r4, r5⟩ := BX.below bc)
              | (go_at_call 31; (with_reducible refine (windows_any a9 zs.length c9 zs wh (b + e) wc I9c (by omega) (by omega) (by omega) (by omega) (by omega) B9 W3).mono ?_); rintro en wd ⟨rfl, hb_wd⟩; have bd := bc.trans (hb_wd.mono bc.size)))
            go_ret
            exact ⟨rfl, B_a.trans (bd.mono B_a.size)⟩
          · have d2 : (k == 2) = false := by simp; omega
            have d3 : (k == 3) = false := by simp; omega
            have d4 : (k == 4) = false := by simp; omega
            clear hk2 hk3 hk4
            go_wp2_with (first
              | (go_at_call 31; (with_reducible refine (windows_any a8 us.length c8 us p e wr I8 (by omega) p0 p1 e0 (by omega) B8 W1).mono ?_); rintro en wc ⟨rfl, hb_wc⟩; have I8c := I8.below hb_wc; have I9c := I9.below hb_wc; have bc := hb.trans (hb_wc.mono hb.size); obtain ⟨r0, r1, r2, r3, r4, r5⟩ := BX.below bc))
            go_ret
            exact ⟨rfl, B_a.trans (bc.mono B_a.size)⟩
namespace policeWindows
theorem policeWindows_any (k p e wh b l : Int) (a : Option Addr) (len cap : Nat) (cs : List Cl) (w : World) (hA : ClAt w a len cs) (hlc : len ≤ cap) (hcm : cap ≤ maxLen) :
    Calls Try.prog 9 #[.agg #[.int .i64 k, .int .i64 p, .int .i64 e, .int .i64 wh, .int .i64 b, .int .i64 l], .slice a len cap] w fun e w' => e = .returned (.bool true) ∧ Below w.heap.size w w' := by
  unfold maxLen at hcm
  by_cases h : 300 < len
  · exact policeWindows_long k p e wh b l a len cap w (by omega) h
  · by_cases hR : rightZ k p e wh b l = 0
    · exact policeWindows_go k p e wh b l a len cap cs w hA (by omega) hR
    · exact policeWindows_bad k p e wh b l a len cap w (by omega) _ rfl hR
end policeWindows
end Go.Proofs.Ytndmmhljphlhjaa
