import Derived.Test.YtaoagbnhomjkpaaGreatZTopVerdicts02
/- The walk of the law TopVerdicts. -/
namespace Go.Proofs.YtaoagbnhomjkpaaGreat
set_option linter.unusedVariables false
set_option linter.unusedSimpArgs false
open Go.RowKit
set_option maxRecDepth 100000
set_option maxHeartbeats 4000000
theorem topVerdicts_long (k p e wh b l : Int) (a : Option Addr) (len cap : Nat) (w : World) (h1 : len ≤ 9223372036854775807) (h3 : 100 < len) :
    Calls Tryz.prog 4 #[.agg #[.int .i64 k, .int .i64 p, .int .i64 e, .int .i64 wh, .int .i64 b, .int .i64 l], .slice a len cap] w fun e w' => e = .returned (.bool true) ∧ Below w.heap.size w w' := by
  have d1 : decide ((100 : Int) < (len : Int)) = true := decide_eq_true (by omega)
  go_enter Tryz.func4, Tryz.ntmps4
  go_wp2_with (go_at_call 6; (with_reducible refine (alive_any _).mono ?_); rintro en wa ⟨rfl, hb_wa⟩)
  go_ret
  exact ⟨rfl, ((Below.refl _ _).alloc (Nat.le_refl _) _).trans (hb_wa.mono (by simp))⟩
theorem Pln0.below {lo hi Q : Nat} {r : Int} {w w' : World} (h : Pln0 lo hi Q r w) (hb : Below w.heap.size w w') : Pln0 lo hi Q r w' := by
  obtain ⟨N, T, W, cm, L, cap, K, gp, a, b, h1, h2, h3, h4, h5, h6, rest⟩ := h
  exact ⟨N, T, W, cm, L, cap, K, gp, a, b, h1.below hb, cell_keep hb h2, h3.below hb, h4.below hb, h5.below hb, h6.below hb, rest⟩
theorem topVerdicts_bad (k p e wh b l : Int) (a : Option Addr) (len cap : Nat) (w : World) (h3 : len ≤ 100) (R : Int) (hR : rightZ k p e wh b l = R) (h0 : ¬ R = 0) :
    Calls Tryz.prog 4 #[.agg #[.int .i64 k, .int .i64 p, .int .i64 e, .int .i64 wh, .int .i64 b, .int .i64 l], .slice a len cap] w fun e w' => e = .returned (.bool true) ∧ Below w.heap.size w w' := by
  have d1 : decide ((100 : Int) < (len : Int)) = false := decide_eq_false (by omega)
  have hR0 : rightZ k p e wh b l ≠ 0 := by rw [hR]; exact h0
  have d2 : (R != 0) = true := by simp [h0]
  have d3 : (R == 0) = false := by simp [h0]
  go_enter Tryz.func4, Tryz.ntmps4
  go_wp2_with (first
    | (go_at_call 6; (with_reducible refine (alive_any _).mono ?_); rintro en wa ⟨rfl, hb_wa⟩; have BX := (Box6.new k p e wh b l _ w).below hb_wa; have B_a : Below w.heap.size w wa := ((Below.refl _ _).alloc (Nat.le_refl _) _).trans (hb_wa.mono (by simp)); have BV := (Below.refl wa.heap.size wa).alloc (Nat.le_refl _) (.cells #[.int .i64 1152921504606846976, .int .i64 1152921504606846976] 3))
    | (go_at_call 8; (with_reducible refine (newP_any wa.heap.size 1152921504606846976 _ (cell_top rfl rfl) (cell_top rfl rfl) (by omega) (by omega)).mono ?_); rintro en w1 ⟨Q, rfl, H1, b1⟩; have B1 := BV.trans (b1.mono BV.size); have BX1 := BX.below B1; obtain ⟨q0, q1, q2, q3, q4, q5⟩ := id BX1)
    | (go_at_call 13; (with_reducible refine (newP_bad k p _ wh b l _ R hR h0).mono ?_); rintro en w2 ⟨rfl, b2⟩; have B2 := B1.trans (b2.mono B1.size); have H2 := H1.below b2; clear q0 q1 q2 q3 q4 q5; obtain ⟨q0, q1, q2, q3, q4, q5⟩ := BX1.below b2)
    | (go_at_call 9; (with_reducible refine (open_bad _ _ Q 1152921504606846976 k p _ wh b l _ H2 hR0).mono ?_); rintro en w3 ⟨rfl, b3⟩; have B3 := B2.trans (b3.mono B2.size)))
  go_ret
  exact ⟨rfl, B_a.trans (B3.mono B_a.size)⟩
theorem cell_chgL {s : Nat → Prop} {w w' : World} {b o : Nat} {v : Value} (hc : ChgL s w w') (hb : ¬ s b) (hv : w.cell? ⟨b, o, none⟩ = some v) : w'.cell? ⟨b, o, none⟩ = some v :=
  (World.cell?_of_block (w := w) (hc.block _ (World.block_lt_of_cell? w _ hv) hb)).trans hv
theorem row_chgL {s : Nat → Prop} {w w' : World} {lo b cap : Nat} {zs : List Int} (h : CellRow w lo b cap zs) (hc : ChgL s w w') (hb : ¬ s b) : CellRow w' lo b cap zs :=
  ⟨⟨h.bytes.length, h.bytes.most, h.bytes.byte, fun hp => by
    obtain ⟨b', off, e, hlt, hcl⟩ := h.bytes.cells hp
    injection e with e; injection e with e1 e2
    subst e1 e2
    exact ⟨_, _, rfl, Nat.lt_of_lt_of_le hlt hc.size, fun k hk => cell_chgL hc hb (hcl k hk)⟩⟩, h.cap1, h.cap2, h.low⟩
theorem told_out (l : Int) (hl : l = 0 ∨ l = 1) (ps : List Int) : Told false (cellZ (wordH false 0 0 50 0 l) ps) 0 0 50 0 l ps false false := by
  have e : (cellZ (wordH false 0 0 50 0 l) ps).take 5 = headZ (wordH false 0 0 50 0 l) := rfl
  have e2 : (cellZ (wordH false 0 0 50 0 l) ps).drop 5 = ps := rfl
  unfold Told
  rw [e, e2]
  rcases hl with rfl | rfl <;> exact ⟨by kernel_rfl, by kernel_rfl, by kernel_rfl, by kernel_rfl, by kernel_rfl, by kernel_rfl, by kernel_rfl, by kernel_rfl, rfl⟩
theorem sent_tag {w : World} {lo : Nat} {l : Int} {ps : List Int} {r : Value} (h : SentAt w lo 2 l ps r) : OutAt w lo r (cellZ (wordH false 0 0 50 0 1) ps) := sent_one h (by decide)
theorem sent_pass {w : World} {lo : Nat} {l : Int} {ps : List Int} {r : Value} (h : SentAt w lo 1 l ps r) : OutAt w lo r (cellZ (wordH false 0 0 50 0 l) ps) := sent_one h (by decide)
theorem sent_no {w : World} {lo : Nat} {l : Int} {ps : List Int} {r : Value} (h : SentAt w lo 3 l ps r) : Value.slice none 0 0 = r := by
  rcases h with ⟨_, h⟩ | ⟨h, _⟩
  · exact h.symm
  · exact absurd rfl h
theorem priority_f (g : Int) (w : World) : Calls Tryz.prog 14 #[.agg #[.int .u32 g, .bool false]] w fun e w' => e = .returned (.int .i64 0) ∧ Below w.heap.size w w' := priority_any g false w
theorem priority_t (g : Int) (w : World) : Calls Tryz.prog 14 #[.agg #[.int .u32 g, .bool true]] w fun e w' => e = .returned (.int .i64 1) ∧ Below w.heap.size w w' := priority_any g true w
/-- behind i cells: the law's policer, and the switch, hold the same. -/
def VInv (x1 x2 lo hi Q P : Nat) (c : Pz) (i : Nat) (T : Int) (S : S4) (c0 c1 c2 c3 : Int) (w : World) : Prop := PolS x1 x2 c S c0 c1 c2 c3 P w ∧ Pln1H x1 x2 lo hi Q c S c0 c1 c2 c3 0 0 false T 0 0 c1 c2 c3 w ∧ Grw i S ∧ Cnt i c0 c1 c2 c3
theorem topVerdicts_go (k p e wh b l : Int) (a : Option Addr) (len cap : Nat) (cs : List Cl) (w : World) (hA : ClAt w a len cs) (h3 : len ≤ 100) (hR : rightZ k p e wh b l = 0) :
    Calls Tryz.prog 4 #[.agg #[.int .i64 k, .int .i64 p, .int .i64 e, .int .i64 wh, .int .i64 b, .int .i64 l], .slice a len cap] w fun e w' => e = .returned (.bool true) ∧ Below w.heap.size w w' := by
  have d1 : decide ((100 : Int) < (len : Int)) = false := decide_eq_false (by omega)
  have ok := pz_ok hR
  have hgb := gapS_bd hA.fine
  have hgs : ∀ i x, cs[i]? = some x → gapS (cs.take (i + 1)) = gapS (cs.take i) + x.g := fun i x hx => gapS_step hx
  obtain ⟨c, hc⟩ : ∃ c, c = pzOf k p e wh b := ⟨_, rfl⟩
  rw [← hc] at ok
  have HC := Lib.hid hc
  have HB := Lib.hid hgb
  have HS := Lib.hid hgs
  have hn := needZ_le k p e wh b l
  have hn1 : needZ k p e wh b l ≤ 1152921504606846976 := by omega
  have hn0 := hn.1
  clear hc hgb hgs hn
  go_enter Tryz.func4, Tryz.ntmps4
  go_wp2_with (first
    | (go_at_call 6; (with_reducible refine (alive_any _).mono ?_); rintro en wa ⟨rfl, hb_wa⟩; have BX := (Box6.new k p e wh b l _ w).below hb_wa; have A_a := (hA.below ((Below.refl _ _).alloc (Nat.le_refl _) _)).below hb_wa; have B_a : Below w.heap.size w wa := ((Below.refl _ _).alloc (Nat.le_refl _) _).trans (hb_wa.mono (by simp)); have BV := (Below.refl wa.heap.size wa).alloc (Nat.le_refl _) (.cells #[.int .i64 1152921504606846976, .int .i64 1152921504606846976] 3))
    | (go_at_call 8; (with_reducible refine (newP_any wa.heap.size 1152921504606846976 _ (cell_top rfl rfl) (cell_top rfl rfl) (by omega) (by omega)).mono ?_); rintro en w1 ⟨Q, rfl, H1, b1⟩; have B1 := BV.trans (b1.mono BV.size); have z1 := b1.size; have BX1 := BX.below B1; obtain ⟨q0, q1, q2, q3, q4, q5⟩ := id BX1)
    | (go_at_call 13; (with_reducible refine (new_S k p e wh b l _ hR).mono ?_); rw [← HC.out]; rintro en w2 ⟨P, rfl, P2, b2⟩; have B2 := B1.trans (b2.mono B1.size); have H2 := H1.below b2; have z2 := b2.size; clear q0 q1 q2 q3 q4 q5; obtain ⟨q0, q1, q2, q3, q4, q5⟩ := BX1.below b2)
    | (go_at_call 9; (with_reducible refine (open_okH _ _ Q 1152921504606846976 k p e wh b l _ H2 z2 (by omega) (by omega) hR hn1 hn0).mono ?_); rw [← HC.out]; rintro en w3 ⟨rfl, H3, c3⟩))
  clear hA
  have zV := BV.size
  have P3 := P2.other c3 (fun j hj => by omega)
  have B3 := B2.trans (chg_in c3 zV B2.size)
  have z3 := c3.size
  obtain ⟨lo, hlo⟩ : ∃ lo, lo = (wa.alloc (.cells #[.int .i64 1152921504606846976, .int .i64 1152921504606846976] 3)).heap.size := ⟨_, rfl⟩
  rw [← hlo] at H3 zV z1
  obtain ⟨x1, hx1⟩ : ∃ x1, x1 = w1.heap.size := ⟨_, rfl⟩
  obtain ⟨x2, hx2⟩ : ∃ x2, x2 = w2.heap.size := ⟨_, rfl⟩
  obtain ⟨hi, hhi⟩ : ∃ hi, hi = w3.heap.size := ⟨_, rfl⟩
  rw [← hx1, ← hx2] at P3
  rw [← hx1, ← hx2, ← hhi] at H3
  have zz : wa.heap.size ≤ lo ∧ lo ≤ x1 ∧ x1 ≤ x2 ∧ x2 ≤ hi ∧ hi ≤ w3.heap.size := by omega
  clear hlo hx1 hx2 hhi P2 H1 H2 B1 B2 BX BX1 q0 q1 q2 q3 q4 q5 c3 b2 b1 BV zV z1 z2 z3
  go_loopw [10, 11, 12, 13, 14, 15, 16, 17, 51] (fun s10 s11 s12 s13 s14 s15 s16 s17 s51 wr => ∃ (i : Nat) (S : S4) (c0 c1 c2 c3 : Int), i ≤ len ∧ s51 = .int .i64 i ∧ s10 = .int .i64 (gapS (cs.take i)) ∧ VInv x1 x2 lo hi Q P c i (gapS (cs.take i)) S c0 c1 c2 c3 wr ∧ Below wa.heap.size wa wr ∧ hi ≤ wr.heap.size) (fun s10 s11 s12 s13 s14 s15 s16 s17 s51 wr => len - (intOf s51).toNat)
  case atStart =>
    refine ⟨0, S4.zero, 0, 0, 0, 0, by omega, rfl, by simp [gapS], ⟨P3, ?_, Grw.zero, Cnt.zero⟩, B3, zz.2.2.2.2⟩
    simpa [gapS] using H3
  case round =>
    obtain ⟨i, S, c0, c1, c2, c3, hil, rfl, rfl, ⟨HP, HQ, hgr, hcn⟩, hb, hih⟩ := hrel
    have bg := HB.out i
    obtain ⟨T, hT⟩ : ∃ T, T = gapS (cs.take i) := ⟨_, rfl⟩
    rw [← hT] at bg HQ ⊢
    by_cases hlt : i < len
    · obtain ⟨g, off, rfl, hg, hcl⟩ := A_a.cells (by omega)
      obtain ⟨x, hx⟩ : ∃ x, cs[i]? = some x := ⟨_, List.getElem?_eq_getElem (by rw [A_a.length]; exact hlt)⟩
      have bx := A_a.fine x (List.mem_of_getElem? hx)
      have e0 := (hb.cell (p := ⟨g, off + i * 2, none⟩) hg).trans (hcl i x hx).1
      have e1 := (hb.cell (p := ⟨g, off + i * 2 + 1, none⟩) hg).trans (hcl i x hx).2
      have hnx : gapS (cs.take (i + 1)) = T + x.g := by rw [HS.out i x hx, ← hT]
      have HN := Lib.hid hnx
      have hg1 := hgr.step ok (T + x.g)
      have hBd := hgr.le (by omega)
      obtain ⟨y0, y1, y2, y3⟩ := hcn.le (by omega)
      obtain ⟨x0, low⟩ := x
      dsimp only at *
      clear hcl hx hnx hT
      have t0 : T ≤ T + x0 := by omega
      have t1 : T + x0 ≤ 1152921504606846976 := by omega
      have r0 : rightH false 0 0 40 0 0 = true := by kernel_rfl
      have r1 : rightH false 0 0 40 0 1 = true := by kernel_rfl
      have hlp : Hid (z48t.length = 48) := z48t_len
      have hbp : Hid (allB z48t) := z48t_B
      have zero : (0 : Int) ≤ 0 ∧ (0 : Int) ≤ 1000000 := by omega
      have zwa := hb.size
      clear d1 hR hn1 hn0
      cases low
      · rcases last_ex c S (T + x0) true with hl | hl | hl
        · have HL := Lib.hid hl
          obtain ⟨Y, hY⟩ : ∃ Y, Hid (Y = (cellV 0 0 50 0 0 z48t).toArray) := ⟨_, rfl⟩
          have hsy : Y.size = 53 := sizeX hY z48t_len
          have tin := told_in 0 (.inl rfl) z48t false
          have tou := told_out 0 (.inl rfl) z48t
          go_wp2_with (first
            | (go_at_call 14; (with_reducible refine (priority_f x0 _).mono ?_); rintro en wp ⟨rfl, gp⟩; have Hp := HQ.below gp; have Pp := HP.below gp; have zp := gp.size; have bp := hb.trans (gp.mono zwa))
            | (go_at_call 10; (with_reducible refine (bytes_any 40 0 0 (wIn 0) z48t _ _ zeros48 hlp hbp r0 (hwIn 0)).mono ?_); rintro en wb ⟨bb, cb, rfl, hc, gb⟩; have Hb := Hp.below gb; have Pb := Pp.below gb; have zb := gb.size; have hlow := Nat.le_trans hih (Nat.le_trans zp hc.low); have hhb := Nat.le_trans hih (Nat.le_trans zp zb); have bb1 := bp.trans (gb.mono bp.size))
            | (go_at_call 11; (with_reducible refine (arrive_sentH x1 x2 lo hi Q c S c0 c1 c2 c3 0 0 false T 0 0 c1 c2 c3 (T + x0) 0 (cellZ (wIn 0) z48t) z48t false false bb cb _ Hb hhb t0 t1 hc.bytes hc.cap1 hc.cap2 (.inr hlow) tin (.inl rfl) hlp hbp true rfl hBd y0 y1 y2 y3 zero zero y1 y2 y3 1 hl).mono ?_); rintro en ws ⟨r, rfl, hs, Hs, gs⟩; have zs := gs.size; obtain ⟨o, b2, cp2, rfl, o0, o1, hrow, olow⟩ := sent_pass hs; have Ps := Pb.other gs (fun j hj => hj.2); have bs := bb1.trans (gs.below (fun k hk => Nat.le_trans zz.1 hk.1.1) bb1.size))
            | (go_at_call 15; (with_reducible refine (take_at (z := true) (by decide) Ps hBd y0 y1 y2 y3 hl rfl rfl rfl rfl rfl).mono ?_); rintro en wt ⟨rfl, Pt, Gt⟩; have Ht := Hs.other Gt (fun j hj => hj); have bt := bs.trans (Gt.below (fun k hk => Nat.le_trans (Nat.le_trans zz.1 zz.2.1) hk.1) bs.size); have zt := Gt.size; have no : ¬ (x1 ≤ o ∧ o < x2) := (by omega); have nb : ¬ (x1 ≤ b2 ∧ b2 < x2) := (by have := hrow.low; omega); have o0t := cell_chgL Gt no o0; have o1t := cell_chgL Gt no o1; have rowt := (row_chgL hrow Gt nb).below ((Below.refl wt.heap.size wt).alloc (Nat.le_refl _) (.cells #[.int .i64 0, .int .i64 0, .bool false] 65)); have recr : RecAt (wt.alloc (.cells #[.int .i64 0, .int .i64 0, .bool false] 65)) wt.heap.size 0 0 false := recAt_new; have nbt : b2 ≠ wt.heap.size := (Nat.ne_of_lt (by obtain ⟨b', off', e', hlt', _⟩ := hrow.bytes.cells (by omega); injection e' with e'; injection e' with e1' e2'; have := Gt.size; omega)))
            | (go_at_call 16; (with_reducible refine (parseX wt.heap.size 0 0 false b2 cp2 (cellZ (wordH false 0 0 50 0 0) z48t) 0 0 50 0 0 z48t false false Y _ hY recr zero zero rowt.bytes rowt.cap1 rowt.cap2 nbt tou).mono ?_); rintro en wq ⟨rfl, hRq, gq⟩)
            | ((with_reducible refine wpList_fill46 Y ?_ ?_); (focus (exact ⟨rfl, rfl, hsy, oneX hY, rfl⟩)); intro W2 hs_W2 hb_W2 Y_2; obtain ⟨xx0, xx1, xx2, xx3, xx4⟩ := hdr_of Y_2 hY))
          have Ht0 : Pln1H x1 x2 lo hi Q c (c.nxt S (T + x0) true) (c0 + 1) (c1 + hit 1 1) (c2 + hit 1 2) (c3 + hit 1 3) 0 0 false (T + x0) 0 0 (c1 + hit 1 1) (c2 + hit 1 2) (c3 + hit 1 3) wt := by simpa [oneIf] using Ht
          have bn : Below wt.heap.size wt W2 := (((Below.refl wt.heap.size wt).alloc (Nat.le_refl _) (.cells #[.int .i64 0, .int .i64 0, .bool false] 65)).trans (gq.below (Nat.le_refl _) (by simp))).trans (hb_W2.mono (by have := gq.size; simp at this; omega))
          go_roundw
          case rel =>
            exact ⟨i + 1, _, _, _, _, _, by omega, by go_num, by rw [HN.out], ⟨Pt.below bn, by rw [HN.out]; exact Ht0.below bn, hg1 true, hcn.step 1⟩, bt.trans (bn.mono bt.size), by have := bn.size; omega⟩
          case measure => simp [intOf]; omega
        · have HL := Lib.hid hl
          obtain ⟨Y, hY⟩ : ∃ Y, Hid (Y = (cellV 0 0 50 0 1 z48t).toArray) := ⟨_, rfl⟩
          have hsy : Y.size = 53 := sizeX hY z48t_len
          have tin := told_in 0 (.inl rfl) z48t false
          have tou := told_out 1 (.inr rfl) z48t
          go_wp2_with (first
            | (go_at_call 14; (with_reducible refine (priority_f x0 _).mono ?_); rintro en wp ⟨rfl, gp⟩; have Hp := HQ.below gp; have Pp := HP.below gp; have zp := gp.size; have bp := hb.trans (gp.mono zwa))
            | (go_at_call 10; (with_reducible refine (bytes_any 40 0 0 (wIn 0) z48t _ _ zeros48 hlp hbp r0 (hwIn 0)).mono ?_); rintro en wb ⟨bb, cb, rfl, hc, gb⟩; have Hb := Hp.below gb; have Pb := Pp.below gb; have zb := gb.size; have hlow := Nat.le_trans hih (Nat.le_trans zp hc.low); have hhb := Nat.le_trans hih (Nat.le_trans zp zb); have bb1 := bp.trans (gb.mono bp.size))
            | (go_at_call 11; (with_reducible refine (arrive_sentH x1 x2 lo hi Q c S c0 c1 c2 c3 0 0 false T 0 0 c1 c2 c3 (T + x0) 0 (cellZ (wIn 0) z48t) z48t false false bb cb _ Hb hhb t0 t1 hc.bytes hc.cap1 hc.cap2 (.inr hlow) tin (.inl rfl) hlp hbp true rfl hBd y0 y1 y2 y3 zero zero y1 y2 y3 2 hl).mono ?_); rintro en ws ⟨r, rfl, hs, Hs, gs⟩; have zs := gs.size; obtain ⟨o, b2, cp2, rfl, o0, o1, hrow, olow⟩ := sent_tag hs; have Ps := Pb.other gs (fun j hj => hj.2); have bs := bb1.trans (gs.below (fun k hk => Nat.le_trans zz.1 hk.1.1) bb1.size))
            | (go_at_call 15; (with_reducible refine (take_at (z := true) (by decide) Ps hBd y0 y1 y2 y3 hl rfl rfl rfl rfl rfl).mono ?_); rintro en wt ⟨rfl, Pt, Gt⟩; have Ht := Hs.other Gt (fun j hj => hj); have bt := bs.trans (Gt.below (fun k hk => Nat.le_trans (Nat.le_trans zz.1 zz.2.1) hk.1) bs.size); have zt := Gt.size; have no : ¬ (x1 ≤ o ∧ o < x2) := (by omega); have nb : ¬ (x1 ≤ b2 ∧ b2 < x2) := (by have := hrow.low; omega); have o0t := cell_chgL Gt no o0; have o1t := cell_chgL Gt no o1; have rowt := (row_chgL hrow Gt nb).below ((Below.refl wt.heap.size wt).alloc (Nat.le_refl _) (.cells #[.int .i64 0, .int .i64 0, .bool false] 65)); have recr : RecAt (wt.alloc (.cells #[.int .i64 0, .int .i64 0, .bool false] 65)) wt.heap.size 0 0 false := recAt_new; have nbt : b2 ≠ wt.heap.size := (Nat.ne_of_lt (by obtain ⟨b', off', e', hlt', _⟩ := hrow.bytes.cells (by omega); injection e' with e'; injection e' with e1' e2'; have := Gt.size; omega)))
            | (go_at_call 16; (with_reducible refine (parseX wt.heap.size 0 0 false b2 cp2 (cellZ (wordH false 0 0 50 0 1) z48t) 0 0 50 0 1 z48t false false Y _ hY recr zero zero rowt.bytes rowt.cap1 rowt.cap2 nbt tou).mono ?_); rintro en wq ⟨rfl, hRq, gq⟩)
            | ((with_reducible refine wpList_fill46 Y ?_ ?_); (focus (exact ⟨rfl, rfl, hsy, oneX hY, rfl⟩)); intro W2 hs_W2 hb_W2 Y_2; obtain ⟨xx0, xx1, xx2, xx3, xx4⟩ := hdr_of Y_2 hY))
          have Ht0 : Pln1H x1 x2 lo hi Q c (c.nxt S (T + x0) true) (c0 + 1) (c1 + hit 2 1) (c2 + hit 2 2) (c3 + hit 2 3) 0 0 false (T + x0) 0 0 (c1 + hit 2 1) (c2 + hit 2 2) (c3 + hit 2 3) wt := by simpa [oneIf] using Ht
          have bn : Below wt.heap.size wt W2 := (((Below.refl wt.heap.size wt).alloc (Nat.le_refl _) (.cells #[.int .i64 0, .int .i64 0, .bool false] 65)).trans (gq.below (Nat.le_refl _) (by simp))).trans (hb_W2.mono (by have := gq.size; simp at this; omega))
          go_roundw
          case rel =>
            exact ⟨i + 1, _, _, _, _, _, by omega, by go_num, by rw [HN.out], ⟨Pt.below bn, by rw [HN.out]; exact Ht0.below bn, hg1 true, hcn.step 2⟩, bt.trans (bn.mono bt.size), by have := bn.size; omega⟩
          case measure => simp [intOf]; omega
        · have HL := Lib.hid hl
          have tin := told_in 0 (.inl rfl) z48t false
          go_wp2_with (first
            | (go_at_call 14; (with_reducible refine (priority_f x0 _).mono ?_); rintro en wp ⟨rfl, gp⟩; have Hp := HQ.below gp; have Pp := HP.below gp; have zp := gp.size; have bp := hb.trans (gp.mono zwa))
            | (go_at_call 10; (with_reducible refine (bytes_any 40 0 0 (wIn 0) z48t _ _ zeros48 hlp hbp r0 (hwIn 0)).mono ?_); rintro en wb ⟨bb, cb, rfl, hc, gb⟩; have Hb := Hp.below gb; have Pb := Pp.below gb; have zb := gb.size; have hlow := Nat.le_trans hih (Nat.le_trans zp hc.low); have hhb := Nat.le_trans hih (Nat.le_trans zp zb); have bb1 := bp.trans (gb.mono bp.size))
            | (go_at_call 11; (with_reducible refine (arrive_sentH x1 x2 lo hi Q c S c0 c1 c2 c3 0 0 false T 0 0 c1 c2 c3 (T + x0) 0 (cellZ (wIn 0) z48t) z48t false false bb cb _ Hb hhb t0 t1 hc.bytes hc.cap1 hc.cap2 (.inr hlow) tin (.inl rfl) hlp hbp true rfl hBd y0 y1 y2 y3 zero zero y1 y2 y3 3 hl).mono ?_); rintro en ws ⟨r, rfl, hs, Hs, gs⟩; have zs := gs.size; obtain rfl := sent_no hs; have Ps := Pb.other gs (fun j hj => hj.2); have bs := bb1.trans (gs.below (fun k hk => Nat.le_trans zz.1 hk.1.1) bb1.size))
            | (go_at_call 15; (with_reducible refine (take_at (z := true) (by decide) Ps hBd y0 y1 y2 y3 hl rfl rfl rfl rfl rfl).mono ?_); rintro en wt ⟨rfl, Pt, Gt⟩; have Ht := Hs.other Gt (fun j hj => hj); have bt := bs.trans (Gt.below (fun k hk => Nat.le_trans (Nat.le_trans zz.1 zz.2.1) hk.1) bs.size); have zt := Gt.size))
          have Ht0 : Pln1H x1 x2 lo hi Q c (c.nxt S (T + x0) true) (c0 + 1) (c1 + hit 3 1) (c2 + hit 3 2) (c3 + hit 3 3) 0 0 false (T + x0) 0 0 (c1 + hit 3 1) (c2 + hit 3 2) (c3 + hit 3 3) wt := by simpa [oneIf] using Ht
          go_roundw
          case rel =>
            exact ⟨i + 1, _, _, _, _, _, by omega, by go_num, by rw [HN.out], ⟨Pt, by rw [HN.out]; exact Ht0, hg1 true, hcn.step 3⟩, bt, by omega⟩
          case measure => simp [intOf]; omega
      · rcases last_ex c S (T + x0) false with hl | hl | hl
        · have HL := Lib.hid hl
          obtain ⟨Y, hY⟩ : ∃ Y, Hid (Y = (cellV 0 0 50 0 1 z48t).toArray) := ⟨_, rfl⟩
          have hsy : Y.size = 53 := sizeX hY z48t_len
          have tin := told_in 1 (.inr rfl) z48t false
          have tou := told_out 1 (.inr rfl) z48t
          go_wp2_with (first
            | (go_at_call 14; (with_reducible refine (priority_t x0 _).mono ?_); rintro en wp ⟨rfl, gp⟩; have Hp := HQ.below gp; have Pp := HP.below gp; have zp := gp.size; have bp := hb.trans (gp.mono zwa))
            | (go_at_call 10; (with_reducible refine (bytes_any 40 0 1 (wIn 1) z48t _ _ zeros48 hlp hbp r1 (hwIn 1)).mono ?_); rintro en wb ⟨bb, cb, rfl, hc, gb⟩; have Hb := Hp.below gb; have Pb := Pp.below gb; have zb := gb.size; have hlow := Nat.le_trans hih (Nat.le_trans zp hc.low); have hhb := Nat.le_trans hih (Nat.le_trans zp zb); have bb1 := bp.trans (gb.mono bp.size))
            | (go_at_call 11; (with_reducible refine (arrive_sentH x1 x2 lo hi Q c S c0 c1 c2 c3 0 0 false T 0 0 c1 c2 c3 (T + x0) 1 (cellZ (wIn 1) z48t) z48t false false bb cb _ Hb hhb t0 t1 hc.bytes hc.cap1 hc.cap2 (.inr hlow) tin (.inr rfl) hlp hbp false rfl hBd y0 y1 y2 y3 zero zero y1 y2 y3 1 hl).mono ?_); rintro en ws ⟨r, rfl, hs, Hs, gs⟩; have zs := gs.size; obtain ⟨o, b2, cp2, rfl, o0, o1, hrow, olow⟩ := sent_pass hs; have Ps := Pb.other gs (fun j hj => hj.2); have bs := bb1.trans (gs.below (fun k hk => Nat.le_trans zz.1 hk.1.1) bb1.size))
            | (go_at_call 15; (with_reducible refine (take_at (z := false) (by decide) Ps hBd y0 y1 y2 y3 hl rfl rfl rfl rfl rfl).mono ?_); rintro en wt ⟨rfl, Pt, Gt⟩; have Ht := Hs.other Gt (fun j hj => hj); have bt := bs.trans (Gt.below (fun k hk => Nat.le_trans (Nat.le_trans zz.1 zz.2.1) hk.1) bs.size); have zt := Gt.size; have no : ¬ (x1 ≤ o ∧ o < x2) := (by omega); have nb : ¬ (x1 ≤ b2 ∧ b2 < x2) := (by have := hrow.low; omega); have o0t := cell_chgL Gt no o0; have o1t := cell_chgL Gt no o1; have rowt := (row_chgL hrow Gt nb).below ((Below.refl wt.heap.size wt).alloc (Nat.le_refl _) (.cells #[.int .i64 0, .int .i64 0, .bool false] 65)); have recr : RecAt (wt.alloc (.cells #[.int .i64 0, .int .i64 0, .bool false] 65)) wt.heap.size 0 0 false := recAt_new; have nbt : b2 ≠ wt.heap.size := (Nat.ne_of_lt (by obtain ⟨b', off', e', hlt', _⟩ := hrow.bytes.cells (by omega); injection e' with e'; injection e' with e1' e2'; have := Gt.size; omega)))
            | (go_at_call 16; (with_reducible refine (parseX wt.heap.size 0 0 false b2 cp2 (cellZ (wordH false 0 0 50 0 1) z48t) 0 0 50 0 1 z48t false false Y _ hY recr zero zero rowt.bytes rowt.cap1 rowt.cap2 nbt tou).mono ?_); rintro en wq ⟨rfl, hRq, gq⟩)
            | ((with_reducible refine wpList_fill46 Y ?_ ?_); (focus (exact ⟨rfl, rfl, hsy, oneX hY, rfl⟩)); intro W2 hs_W2 hb_W2 Y_2; obtain ⟨xx0, xx1, xx2, xx3, xx4⟩ := hdr_of Y_2 hY))
          have Ht0 : Pln1H x1 x2 lo hi Q c (c.nxt S (T + x0) false) (c0 + 1) (c1 + hit 1 1) (c2 + hit 1 2) (c3 + hit 1 3) 0 0 false (T + x0) 0 0 (c1 + hit 1 1) (c2 + hit 1 2) (c3 + hit 1 3) wt := by simpa [oneIf] using Ht
          have bn : Below wt.heap.size wt W2 := (((Below.refl wt.heap.size wt).alloc (Nat.le_refl _) (.cells #[.int .i64 0, .int .i64 0, .bool false] 65)).trans (gq.below (Nat.le_refl _) (by simp))).trans (hb_W2.mono (by have := gq.size; simp at this; omega))
          go_roundw
          case rel =>
            exact ⟨i + 1, _, _, _, _, _, by omega, by go_num, by rw [HN.out], ⟨Pt.below bn, by rw [HN.out]; exact Ht0.below bn, hg1 false, hcn.step 1⟩, bt.trans (bn.mono bt.size), by have := bn.size; omega⟩
          case measure => simp [intOf]; omega
        · have HL := Lib.hid hl
          obtain ⟨Y, hY⟩ : ∃ Y, Hid (Y = (cellV 0 0 50 0 1 z48t).toArray) := ⟨_, rfl⟩
          have hsy : Y.size = 53 := sizeX hY z48t_len
          have tin := told_in 1 (.inr rfl) z48t false
          have tou := told_out 1 (.inr rfl) z48t
          go_wp2_with (first
            | (go_at_call 14; (with_reducible refine (priority_t x0 _).mono ?_); rintro en wp ⟨rfl, gp⟩; have Hp := HQ.below gp; have Pp := HP.below gp; have zp := gp.size; have bp := hb.trans (gp.mono zwa))
            | (go_at_call 10; (with_reducible refine (bytes_any 40 0 1 (wIn 1) z48t _ _ zeros48 hlp hbp r1 (hwIn 1)).mono ?_); rintro en wb ⟨bb, cb, rfl, hc, gb⟩; have Hb := Hp.below gb; have Pb := Pp.below gb; have zb := gb.size; have hlow := Nat.le_trans hih (Nat.le_trans zp hc.low); have hhb := Nat.le_trans hih (Nat.le_trans zp zb); have bb1 := bp.trans (gb.mono bp.size))
            | (go_at_call 11; (with_reducible refine (arrive_sentH x1 x2 lo hi Q c S c0 c1 c2 c3 0 0 false T 0 0 c1 c2 c3 (T + x0) 1 (cellZ (wIn 1) z48t) z48t false false bb cb _ Hb hhb t0 t1 hc.bytes hc.cap1 hc.cap2 (.inr hlow) tin (.inr rfl) hlp hbp false rfl hBd y0 y1 y2 y3 zero zero y1 y2 y3 2 hl).mono ?_); rintro en ws ⟨r, rfl, hs, Hs, gs⟩; have zs := gs.size; obtain ⟨o, b2, cp2, rfl, o0, o1, hrow, olow⟩ := sent_tag hs; have Ps := Pb.other gs (fun j hj => hj.2); have bs := bb1.trans (gs.below (fun k hk => Nat.le_trans zz.1 hk.1.1) bb1.size))
            | (go_at_call 15; (with_reducible refine (take_at (z := false) (by decide) Ps hBd y0 y1 y2 y3 hl rfl rfl rfl rfl rfl).mono ?_); rintro en wt ⟨rfl, Pt, Gt⟩; have Ht := Hs.other Gt (fun j hj => hj); have bt := bs.trans (Gt.below (fun k hk => Nat.le_trans (Nat.le_trans zz.1 zz.2.1) hk.1) bs.size); have zt := Gt.size; have no : ¬ (x1 ≤ o ∧ o < x2) := (by omega); have nb : ¬ (x1 ≤ b2 ∧ b2 < x2) := (by have := hrow.low; omega); have o0t := cell_chgL Gt no o0; have o1t := cell_chgL Gt no o1; have rowt := (row_chgL hrow Gt nb).below ((Below.refl wt.heap.size wt).alloc (Nat.le_refl _) (.cells #[.int .i64 0, .int .i64 0, .bool false] 65)); have recr : RecAt (wt.alloc (.cells #[.int .i64 0, .int .i64 0, .bool false] 65)) wt.heap.size 0 0 false := recAt_new; have nbt : b2 ≠ wt.heap.size := (Nat.ne_of_lt (by obtain ⟨b', off', e', hlt', _⟩ := hrow.bytes.cells (by omega); injection e' with e'; injection e' with e1' e2'; have := Gt.size; omega)))
            | (go_at_call 16; (with_reducible refine (parseX wt.heap.size 0 0 false b2 cp2 (cellZ (wordH false 0 0 50 0 1) z48t) 0 0 50 0 1 z48t false false Y _ hY recr zero zero rowt.bytes rowt.cap1 rowt.cap2 nbt tou).mono ?_); rintro en wq ⟨rfl, hRq, gq⟩)
            | ((with_reducible refine wpList_fill46 Y ?_ ?_); (focus (exact ⟨rfl, rfl, hsy, oneX hY, rfl⟩)); intro W2 hs_W2 hb_W2 Y_2; obtain ⟨xx0, xx1, xx2, xx3, xx4⟩ := hdr_of Y_2 hY))
          have Ht0 : Pln1H x1 x2 lo hi Q c (c.nxt S (T + x0) false) (c0 + 1) (c1 + hit 2 1) (c2 + hit 2 2) (c3 + hit 2 3) 0 0 false (T + x0) 0 0 (c1 + hit 2 1) (c2 + hit 2 2) (c3 + hit 2 3) wt := by simpa [oneIf] using Ht
          have bn : Below wt.heap.size wt W2 := (((Below.refl wt.heap.size wt).alloc (Nat.le_refl _) (.cells #[.int .i64 0, .int .i64 0, .bool false] 65)).trans (gq.below (Nat.le_refl _) (by simp))).trans (hb_W2.mono (by have := gq.size; simp at this; omega))
          go_roundw
          case rel =>
            exact ⟨i + 1, _, _, _, _, _, by omega, by go_num, by rw [HN.out], ⟨Pt.below bn, by rw [HN.out]; exact Ht0.below bn, hg1 false, hcn.step 2⟩, bt.trans (bn.mono bt.size), by have := bn.size; omega⟩
          case measure => simp [intOf]; omega
        · have HL := Lib.hid hl
          have tin := told_in 1 (.inr rfl) z48t false
          go_wp2_with (first
            | (go_at_call 14; (with_reducible refine (priority_t x0 _).mono ?_); rintro en wp ⟨rfl, gp⟩; have Hp := HQ.below gp; have Pp := HP.below gp; have zp := gp.size; have bp := hb.trans (gp.mono zwa))
            | (go_at_call 10; (with_reducible refine (bytes_any 40 0 1 (wIn 1) z48t _ _ zeros48 hlp hbp r1 (hwIn 1)).mono ?_); rintro en wb ⟨bb, cb, rfl, hc, gb⟩; have Hb := Hp.below gb; have Pb := Pp.below gb; have zb := gb.size; have hlow := Nat.le_trans hih (Nat.le_trans zp hc.low); have hhb := Nat.le_trans hih (Nat.le_trans zp zb); have bb1 := bp.trans (gb.mono bp.size))
            | (go_at_call 11; (with_reducible refine (arrive_sentH x1 x2 lo hi Q c S c0 c1 c2 c3 0 0 false T 0 0 c1 c2 c3 (T + x0) 1 (cellZ (wIn 1) z48t) z48t false false bb cb _ Hb hhb t0 t1 hc.bytes hc.cap1 hc.cap2 (.inr hlow) tin (.inr rfl) hlp hbp false rfl hBd y0 y1 y2 y3 zero zero y1 y2 y3 3 hl).mono ?_); rintro en ws ⟨r, rfl, hs, Hs, gs⟩; have zs := gs.size; obtain rfl := sent_no hs; have Ps := Pb.other gs (fun j hj => hj.2); have bs := bb1.trans (gs.below (fun k hk => Nat.le_trans zz.1 hk.1.1) bb1.size))
            | (go_at_call 15; (with_reducible refine (take_at (z := false) (by decide) Ps hBd y0 y1 y2 y3 hl rfl rfl rfl rfl rfl).mono ?_); rintro en wt ⟨rfl, Pt, Gt⟩; have Ht := Hs.other Gt (fun j hj => hj); have bt := bs.trans (Gt.below (fun k hk => Nat.le_trans (Nat.le_trans zz.1 zz.2.1) hk.1) bs.size); have zt := Gt.size))
          have Ht0 : Pln1H x1 x2 lo hi Q c (c.nxt S (T + x0) false) (c0 + 1) (c1 + hit 3 1) (c2 + hit 3 2) (c3 + hit 3 3) 0 0 false (T + x0) 0 0 (c1 + hit 3 1) (c2 + hit 3 2) (c3 + hit 3 3) wt := by simpa [oneIf] using Ht
          go_roundw
          case rel =>
            exact ⟨i + 1, _, _, _, _, _, by omega, by go_num, by rw [HN.out], ⟨Pt, by rw [HN.out]; exact Ht0, hg1 false, hcn.step 3⟩, bt, by omega⟩
          case measure => simp [intOf]; omega
    · obtain rfl : len = i := by omega
      go_wp2_with (first
        | (go_at_call 17; (with_reducible refine (counts_S _ HP).mono ?_); rintro en wm ⟨rfl, gm⟩; have Hm := HQ.below gm; have bm := hb.trans (gm.mono hb.size); have b4 := (Below.refl wm.heap.size wm).alloc (Nat.le_refl _) (.cells #[.int .i64 c0, .int .i64 c1, .int .i64 c2, .int .i64 c3] 66); have Hn := (Hm.below b4).out)
        | (go_at_call 12; (with_reducible refine (pcounts_any lo hi Q c S c0 c1 c2 c3 0 0 false _ 0 0 c1 c2 c3 _ Hn).mono ?_); rintro en wn ⟨rfl, gn⟩; have n1 : wn.cell? ⟨wm.heap.size, 1, none⟩ = some (.int .i64 c1) := cell_keep gn (cell_top rfl rfl); have n2 : wn.cell? ⟨wm.heap.size, 2, none⟩ = some (.int .i64 c2) := cell_keep gn (cell_top rfl rfl); have n3 : wn.cell? ⟨wm.heap.size, 3, none⟩ = some (.int .i64 c3) := cell_keep gn (cell_top rfl rfl); have sn : wm.heap.size < wn.heap.size := World.block_lt_of_cell? _ _ n1))
      all_goals
        go_ret
        refine ⟨ret_bool (by simp), ?_⟩
        have bn := bm.trans ((b4.trans (gn.mono b4.size)).mono bm.size)
        exact (B_a.trans (bn.mono B_a.size)).alloc (Nat.le_trans B_a.size bn.size) _
namespace topVerdicts
theorem topVerdicts_any (k p e wh b l : Int) (a : Option Addr) (len cap : Nat) (cs : List Cl) (w : World) (hA : ClAt w a len cs) (hlc : len ≤ cap) (hcm : cap ≤ maxLen) :
    Calls Tryz.prog 4 #[.agg #[.int .i64 k, .int .i64 p, .int .i64 e, .int .i64 wh, .int .i64 b, .int .i64 l], .slice a len cap] w fun e w' => e = .returned (.bool true) ∧ Below w.heap.size w w' := by
  unfold maxLen at hcm
  by_cases h : 100 < len
  · exact topVerdicts_long k p e wh b l a len cap w (by omega) h
  · by_cases hR : rightZ k p e wh b l = 0
    · exact topVerdicts_go k p e wh b l a len cap cs w hA (by omega) hR
    · exact topVerdicts_bad k p e wh b l a len cap w (by omega) _ rfl hR
end topVerdicts
end Go.Proofs.YtaoagbnhomjkpaaGreat
