/- The walk of the law PoliceKinds. -/
import Derived.Test.YtndmmhljphlhjaaPolK
namespace Go.Proofs.Ytndmmhljphlhjaa
set_option linter.unusedVariables false
set_option linter.unusedSimpArgs false
open Go.RowKit
set_option maxRecDepth 100000
set_option maxHeartbeats 4000000
theorem policeKinds_long (pk wh b : Int) (a : Option Addr) (len cap : Nat) (w : World) (h1 : len ≤ 9223372036854775807) (h3 : 300 < len) :
    Calls Try.prog 14 #[.int .u16 pk, .int .u16 wh, .int .u16 b, .slice a len cap] w fun e w' => e = .returned (.bool true) ∧ Below w.heap.size w w' := by
  have d1 : decide ((300 : Int) < (len : Int)) = true := decide_eq_true (by omega)
  go_enter Try.func14, Try.ntmps14
  go_wp2_with (go_at_call 27; refine (awake07 _).mono ?_; rintro e w' ⟨rfl, hb⟩; obtain ⟨hc, hf⟩ := bcell hb; have hz := hb.size; (try simp at hz); (try have hz1 : w.heap.size < w'.heap.size := by omega); (try have hz2 : w.heap.size + 1 < w'.heap.size := by omega))
  go_ret
  exact ⟨rfl, by (repeat' (first | exact Below.refl _ _ | assumption | (refine Below.grown ?_ (by assumption) (by first | omega | (simp; omega)) (by simp [Value.ownBlock]; try omega)) | (refine below_drewN ?_ _) | (refine Below.drew ?_) | (refine Below.alloc ?_ (by first | omega | (simp; done) | (simp; omega)) _) | (refine Below.setCell ?_ (by first | omega | (simp; done) | (simp; omega)) _) | (refine below_then ?_ (Aft.below _)) | (apply below_then; rotate_left; assumption)))⟩
theorem policeKinds_go (pk wh b : Int) (a : Option Addr) (len cap : Nat) (zs : List Int) (w : World) (hA : U16At w a len zs) (p0 : 0 ≤ pk) (p1 : pk < 65536) (q0 : 0 ≤ wh) (q1 : wh < 65536) (b0 : 0 ≤ b) (b1 : b < 65536) (h3 : len ≤ 300) :
    Calls Try.prog 14 #[.int .u16 pk, .int .u16 wh, .int .u16 b, .slice a len cap] w fun e w' => e = .returned (.bool true) ∧ Below w.heap.size w w' := by
  have d1 : decide ((300 : Int) < (len : Int)) = false := decide_eq_false (by omega)
  have hgb := sumZ_bd hA.fine
  have hgs : ∀ i x, zs[i]? = some x → (zs.take (i + 1)).sum = (zs.take i).sum + x := fun i x hx => sumZ_step hx
  have HB := Lib.hid hgb
  have HS := Lib.hid hgs
  clear hgb hgs
  obtain ⟨M, hM⟩ : ∃ M, 1 + pk % 50 = M := ⟨_, rfl⟩
  have bM : 1 ≤ M ∧ M ≤ 50 := by omega
  have HM := Lib.hid hM
  have hR3 : rightZ 3 M 0 (M + wh) b 0 = 0 := rightZ_zero.2 (by unfold FineP; omega)
  have hR4 : rightZ 4 M 0 (M + wh) b 0 = 0 := rightZ_zero.2 (by unfold FineP; omega)
  have ok := pz_ok hR3
  have ok' := pz_ok hR4
  obtain ⟨c, hc⟩ : ∃ c, c = pzOf 3 M 0 (M + wh) b := ⟨_, rfl⟩
  obtain ⟨d, hd⟩ : ∃ d, d = pzOf 4 M 0 (M + wh) b := ⟨_, rfl⟩
  rw [← hc] at ok
  rw [← hd] at ok'
  have cf : c.has = true ∧ c.zero = true ∧ c.tag = false ∧ c.al = false ∧ 0 ≤ c.e1 ∧ 0 ≤ c.s1 := by rw [hc]; exact ⟨rfl, rfl, rfl, rfl, Int.le_refl _, by show 0 ≤ M; omega⟩
  have df : d.has = true ∧ d.zero = true ∧ d.tag = true ∧ d.al = false ∧ d.s1 = c.s1 ∧ d.s2 = c.s2 ∧ d.e1 = c.e1 ∧ d.e2 = c.e2 := by rw [hc, hd]; exact ⟨rfl, rfl, rfl, rfl, rfl, rfl, rfl, rfl⟩
  have cs1 : c.s1 = M := by rw [hc]; rfl
  have HC := Lib.hid hc
  have HD := Lib.hid hd
  have CF := Lib.hid cf
  have DF := Lib.hid df
  clear hc hd cf df hM
  go_enter Try.func14, Try.ntmps14
  go_wp2_with (first
    | (go_at_call 27; refine (awake07 _).mono ?_; rintro e wa ⟨rfl, hb_wa⟩; have A_a := hA.below hb_wa)
    | (go_at_call 28; rw [HM.out]; (with_reducible refine (new_S 3 M 0 (M + wh) b 0 ((wa.alloc (.cells #[.int .i64 3, .int .i64 M, .int .i64 0, .int .i64 (M + wh), .int .i64 b, .int .i64 0] 23)).alloc (.cells #[.int .i64 4, .int .i64 M, .int .i64 0, .int .i64 (M + wh), .int .i64 b, .int .i64 0] 23)) hR3).mono ?_); rw [← HC.out]; rintro e w1 ⟨P, rfl, H1, hb_w1⟩; have sX : ((wa.alloc (.cells #[.int .i64 3, .int .i64 M, .int .i64 0, .int .i64 (M + wh), .int .i64 b, .int .i64 0] 23)).alloc (.cells #[.int .i64 4, .int .i64 M, .int .i64 0, .int .i64 (M + wh), .int .i64 b, .int .i64 0] 23)).heap.size = wa.heap.size + 2 := (by simp); have bX : Below wa.heap.size wa ((wa.alloc (.cells #[.int .i64 3, .int .i64 M, .int .i64 0, .int .i64 (M + wh), .int .i64 b, .int .i64 0] 23)).alloc (.cells #[.int .i64 4, .int .i64 M, .int .i64 0, .int .i64 (M + wh), .int .i64 b, .int .i64 0] 23)) := ((Below.refl _ _).alloc (Nat.le_refl _) _).alloc (by simp) _; have BXc := ((Box6.new 3 M 0 (M + wh) b 0 23 wa).below ((Below.refl _ _).alloc (Nat.le_refl _) (.cells #[.int .i64 4, .int .i64 M, .int .i64 0, .int .i64 (M + wh), .int .i64 b, .int .i64 0] 23))).below hb_w1; have BXd : Box6 4 M 0 (M + wh) b 0 (wa.heap.size + 1) w1 := (by have h := (Box6.new 4 M 0 (M + wh) b 0 23 (wa.alloc (.cells #[.int .i64 3, .int .i64 M, .int .i64 0, .int .i64 (M + wh), .int .i64 b, .int .i64 0] 23))).below hb_w1; (rw [show (wa.alloc (.cells #[.int .i64 3, .int .i64 M, .int .i64 0, .int .i64 (M + wh), .int .i64 b, .int .i64 0] 23)).heap.size = wa.heap.size + 1 by simp] at h); exact h); have L1x := hb_w1.size; rw [sX] at H1 L1x; have bX1 := bX.trans (hb_w1.mono (by simp; omega)); clear hb_w1 bX sX; obtain ⟨q0, q1, q2, q3, q4, q5⟩ := id BXd)
    | (go_at_call 28; (with_reducible refine (new_S 4 M 0 (M + wh) b 0 w1 hR4).mono ?_); rw [← HD.out]; rintro e w2 ⟨O, rfl, H2, hb_w2⟩; clear q0 q1 q2 q3 q4 q5))
  clear hA
  have H1 := H1.below hb_w2
  have b2 := bX1.trans (hb_w2.mono bX1.size)
  have BXc := BXc.below hb_w2
  have L2 := hb_w2.size
  go_loopw [15, 16, 17, 18, 61] (fun s15 s16 s17 s18 s61 wr => ∃ (i : Nat) (S S' : S4) (c0 c1 c2 c3 d0 d1 d2 d3 : Int), i ≤ len ∧ s61 = .int .i64 i ∧ s15 = .int .i64 (M * (i : Int) + (zs.take i).sum) ∧ PolS (wa.heap.size + 2) w1.heap.size c S c0 c1 c2 c3 P wr ∧ PolS w1.heap.size w2.heap.size d S' d0 d1 d2 d3 O wr ∧ KInv c d S S' (M * (i : Int) + (zs.take i).sum) ∧ Grw i S ∧ Grw i S' ∧ Cnt i c0 c1 c2 c3 ∧ Cnt i d0 d1 d2 d3 ∧ Below (wa.heap.size + 2) w2 wr) (fun s15 s16 s17 s18 s61 wr => len - (intOf s61).toNat)
  case atStart => exact ⟨0, S4.zero, S4.zero, 0, 0, 0, 0, 0, 0, 0, 0, by omega, rfl, by simp, H1, H2, by simp; exact KInv.zero (by omega) (by rw [DF.out.2.2.2.2.1]; omega), Grw.zero, Grw.zero, Cnt.zero, Cnt.zero, Below.refl _ _⟩
  case round =>
    obtain ⟨i, S, S', c0, c1, c2, c3, d0, d1, d2, d3, hi, rfl, rfl, HP, HO, hki, hgr, hgr', hcn, hdn, hb⟩ := hrel
    have bg := HB.out i
    obtain ⟨G, hG⟩ : ∃ G, G = (zs.take i).sum := ⟨_, rfl⟩
    rw [← hG] at bg hki ⊢
    obtain ⟨T, hT⟩ : ∃ T, T = M * (i : Int) + G := ⟨_, rfl⟩
    rw [← hT] at hki ⊢
    have hMi : 0 ≤ M * (i : Int) ∧ M * (i : Int) ≤ 50 * (i : Int) := ⟨Int.mul_nonneg (by omega) (by omega), Int.mul_le_mul_of_nonneg_right bM.2 (by omega)⟩
    have bT : 0 ≤ T ∧ T ≤ 20000000 := by omega
    obtain ⟨z0, z1, z2, z3⟩ := hcn.le (by omega)
    obtain ⟨y0, y1, y2, y3⟩ := hdn.le (by omega)
    by_cases hlt : i < len
    · obtain ⟨g, off, rfl, hg, hcl⟩ := A_a.cells (by omega)
      obtain ⟨x, hx⟩ : ∃ x, zs[i]? = some x := ⟨_, List.getElem?_eq_getElem (by rw [A_a.length]; exact hlt)⟩
      have bx := A_a.fine x (List.mem_of_getElem? hx)
      have e0 := (hb.cell (p := ⟨g, off + i, none⟩) (by show g < _; omega)).trans ((b2.cell (p := ⟨g, off + i, none⟩) hg).trans (hcl i x hx))
      have e1 := (hb.cell (p := ⟨wa.heap.size, 1, none⟩) (by show wa.heap.size < _; omega)).trans BXc.2.1
      have hnx : M * ((i + 1 : Nat) : Int) + (zs.take (i + 1)).sum = T + (M + x) := by
        rw [HS.out i x hx, ← hG, hT, Int.natCast_add, Int.mul_add]; simp; omega
      have HN := Lib.hid hnx
      obtain ⟨t', ht'⟩ : ∃ t', t' = T + (M + x) := ⟨_, rfl⟩
      have HT := Lib.hid ht'
      rw [← ht'] at hnx
      have hg1 := hgr.step ok t'
      have hg1' := hgr'.step ok' t'
      have hBd := hgr.le (by omega)
      have hBd' := hgr'.le (by omega)
      obtain ⟨st1, st2⟩ := kinds_step CF.out DF.out hki (t := t') (by omega) (by omega) (by omega)
      have ST := Lib.hid st2
      clear hcl hx hnx hT hG ht' hMi st2 hki
      rcases st1 with ⟨hl, hl'⟩ | ⟨hl, hl'⟩
      · go_wp2
        go_quiet (fail)
        rw [← HT.out]
        obtain ⟨wd, hwd⟩ : ∃ wd, wd = wr.drewN nq := ⟨_, rfl⟩
        have bd : Below wr.heap.size wr wd := by rw [hwd]; exact below_drewN (Below.refl _ _) _
        rw [← hwd]
        clear hwd
        have HPd := HP.below bd
        have HOd := HO.below bd
        have bb := hb.trans (bd.mono (by have := hb.size; omega))
        go_wp2_with (first
          | (go_at_call 29; (with_reducible refine (take_at (z := true) (by decide) HPd hBd z0 z1 z2 z3 hl rfl rfl rfl rfl rfl).mono ?_); rintro e wt ⟨rfl, HPt, Gt⟩; have HOt := HOd.other Gt (fun k hk => by omega); have bt := bb.trans (bel_of Gt (Nat.le_refl _) (by have := bb.size; omega)))
          | (go_at_call 29; (with_reducible refine (take_at (z := true) (by decide) HOt hBd' y0 y1 y2 y3 hl' rfl rfl rfl rfl rfl).mono ?_); rintro e wu ⟨rfl, HOu, Gu⟩; have HPu := HPt.other Gu (fun k hk => by omega); have bu := bt.trans (bel_of Gu L1x (by have := bt.size; omega))))
        go_roundw
        case rel => exact ⟨i + 1, _, _, _, _, _, _, _, _, _, _, by omega, by go_num, by rw [HN.out, ← HT.out], HPu, HOu, by rw [HN.out, ← HT.out]; exact ST.out, hg1 true, hg1' true, hcn.step _, hdn.step _, bu⟩
        case measure => simp [intOf]; omega
      · go_wp2
        go_quiet (fail)
        rw [← HT.out]
        obtain ⟨wd, hwd⟩ : ∃ wd, wd = wr.drewN nq := ⟨_, rfl⟩
        have bd : Below wr.heap.size wr wd := by rw [hwd]; exact below_drewN (Below.refl _ _) _
        rw [← hwd]
        clear hwd
        have HPd := HP.below bd
        have HOd := HO.below bd
        have bb := hb.trans (bd.mono (by have := hb.size; omega))
        go_wp2_with (first
          | (go_at_call 29; (with_reducible refine (take_at (z := true) (by decide) HPd hBd z0 z1 z2 z3 hl rfl rfl rfl rfl rfl).mono ?_); rintro e wt ⟨rfl, HPt, Gt⟩; have HOt := HOd.other Gt (fun k hk => by omega); have bt := bb.trans (bel_of Gt (Nat.le_refl _) (by have := bb.size; omega)))
          | (go_at_call 29; (with_reducible refine (take_at (z := true) (by decide) HOt hBd' y0 y1 y2 y3 hl' rfl rfl rfl rfl rfl).mono ?_); rintro e wu ⟨rfl, HOu, Gu⟩; have HPu := HPt.other Gu (fun k hk => by omega); have bu := bt.trans (bel_of Gu L1x (by have := bt.size; omega))))
        go_roundw
        case rel => exact ⟨i + 1, _, _, _, _, _, _, _, _, _, _, by omega, by go_num, by rw [HN.out, ← HT.out], HPu, HOu, by rw [HN.out, ← HT.out]; exact ST.out, hg1 true, hg1' true, hcn.step _, hdn.step _, bu⟩
        case measure => simp [intOf]; omega
    · obtain rfl : len = i := by omega
      have he : ∀ w, (binOp .eql 55 (.agg #[.int .i64 0, .int .i64 0, .int .i64 0, .int .i64 0]) (.agg #[.int .i64 0, .int .i64 0, .int .i64 0, .int .i64 0])).run Try.prog w = .ok (.bool true) w := eq_fourI (by simp) (by decide) (by decide)
      go_wp2_with (first
        | (go_at_call 29; (with_reducible refine (take_nil _ _ _).mono ?_); rintro e wc ⟨rfl, hb_wc⟩; have bc := hb.trans (hb_wc.mono (by have := hb.size; omega)))
        | (go_at_call 32; (with_reducible refine (counts_nil _).mono ?_); rintro e wd ⟨rfl, hb_wd⟩; have bd := bc.trans (hb_wd.mono (by have := bc.size; omega)))
        | (go_at_call 33; (with_reducible refine (due_nil _ _).mono ?_); rintro e we ⟨rfl, hb_we⟩; have be := bd.trans (hb_we.mono (by have := bd.size; omega))))
      go_ret
      exact ⟨ret_bool (by simp), hb_wa.trans ((b2.trans (be.mono (by omega))).mono hb_wa.size)⟩
namespace policeKinds
theorem policeKinds_any (pk wh b : Int) (a : Option Addr) (len cap : Nat) (zs : List Int) (w : World) (p0 : 0 ≤ pk) (p1 : pk < 65536) (q0 : 0 ≤ wh) (q1 : wh < 65536) (b0 : 0 ≤ b) (b1 : b < 65536) (hA : U16At w a len zs) (hlc : len ≤ cap) (hcm : cap ≤ maxLen) :
    Calls Try.prog 14 #[.int .u16 pk, .int .u16 wh, .int .u16 b, .slice a len cap] w fun e w' => e = .returned (.bool true) ∧ Below w.heap.size w w' := by
  unfold maxLen at hcm
  by_cases h : 300 < len
  · exact policeKinds_long pk wh b a len cap w (by omega) h
  · exact policeKinds_go pk wh b a len cap zs w hA p0 p1 q0 q1 b0 b1 (by omega)
end policeKinds
end Go.Proofs.Ytndmmhljphlhjaa
