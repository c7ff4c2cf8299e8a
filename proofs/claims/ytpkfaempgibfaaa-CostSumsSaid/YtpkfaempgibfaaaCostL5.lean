/- The walk of the law CostFits. -/
import Derived.Test.YtpkfaempgibfaaaCrs
import Derived.Test.YtpkfaempgibfaaaCostL
namespace Go.Proofs.Ytpkfaempgibfaaa
set_option linter.unusedVariables false
set_option linter.unusedSimpArgs false
open Go.RowKit
set_option maxRecDepth 100000
set_option maxHeartbeats 4000000
theorem crAt_lit {w : World} (x : C6) : CrAt (w.alloc (.cells #[.int .i64 x.k, .int .i64 x.p, .int .i64 x.e, .int .i64 x.wh, .int .i64 x.b, .int .i64 x.l] 35)) (some ⟨w.heap.size, 0, none⟩) 1 [x] := by
  obtain ⟨a, c, e, h, _⟩ := (OwnC.lit (w := w) (base := 0) x (Nat.zero_le _)).at (by omega)
  injection e with e; subst e; exact h
theorem sumI_rep (x : C6) (q : Nat) : sumI (List.replicate q x) = q * x.need := by
  unfold sumI
  induction q with
  | zero => simp
  | succ q ih =>
    rw [List.replicate_succ, List.map_cons, List.sum_cons, ih]
    push_cast
    rw [Int.add_mul]; omega
theorem costFits_go (x : C6) (room : Int) (w : World) (r0 : 0 ≤ room) (r1 : room < 4294967296) :
    Calls Try.prog 15 #[.agg #[.int .i64 x.k, .int .i64 x.p, .int .i64 x.e, .int .i64 x.wh, .int .i64 x.b, .int .i64 x.l], .int .u32 room] w fun e w' => e = .returned (.bool true) ∧ Below w.heap.size w w' := by
  obtain ⟨N, hN⟩ : ∃ N, needZ x.k x.p x.e x.wh x.b x.l = N := ⟨_, rfl⟩
  have hb := needZ_le x.k x.p x.e x.wh x.b x.l
  rw [hN] at hb
  have hxN : x.need = N := hN
  have HN := Lib.hid hN
  clear hN
  by_cases h0 : N ≤ 0
  · have hz : (N == 0) = true := by simp; omega
    clear hxN
    go_enter Try.func15, Try.ntmps15
    go_wp2_with (first | (go_at_call 26; refine (awake17 _).mono ?_; rintro e wa ⟨rfl, hb_wa⟩; obtain ⟨hc, hf⟩ := bcell hb_wa; have hs := hb_wa.size; (simp at hs)) | (go_at_call 27; (with_reducible refine (need_any x.k x.p x.e x.wh x.b x.l _).mono ?_); rw [HN.out]; rintro e wn ⟨rfl, hb_wn⟩))
    go_ret
    exact ⟨ret_bool (by simp), below_then (below_box hb_wa) hb_wn⟩
  · have hz : (N == 0) = false := by simp; omega
    have hz2 : ¬ N = 0 := by omega
    obtain ⟨q, hq⟩ : ∃ q : Nat, room / N = (q : Int) := ⟨(room / N).toNat, (Int.toNat_of_nonneg (Int.ediv_nonneg r0 (by omega))).symm⟩
    have hq1 : (q : Int) * N ≤ room := by rw [← hq]; exact Int.ediv_mul_le _ (by omega)
    have hq2 : room < ((q : Int) + 1) * N := by rw [← hq]; exact Int.lt_ediv_add_one_mul_self _ (by omega)
    have hq3 : (q : Int) ≤ room := by
      have := Int.ediv_le_self (a := room) N r0
      rw [hq] at this; exact this
    by_cases h300 : 300 < q
    · have hd : decide ((300 : Int) < (q : Int)) = true := decide_eq_true (by omega)
      clear hq1 hq2 hxN
      go_enter Try.func15, Try.ntmps15
      go_wp2_with (first | (go_at_call 26; refine (awake17 _).mono ?_; rintro e wa ⟨rfl, hb_wa⟩; obtain ⟨hc, hf⟩ := bcell hb_wa; have hs := hb_wa.size; (simp at hs)) | (go_at_call 27; (with_reducible refine (need_any x.k x.p x.e x.wh x.b x.l _).mono ?_); rw [HN.out]; rintro e wn ⟨rfl, hb_wn⟩))
      go_ret
      exact ⟨ret_bool (by simp), below_then (below_box hb_wa) hb_wn⟩
    · have hd : decide ((300 : Int) < (q : Int)) = false := decide_eq_false (by omega)
      have hs1 : sumZ (List.replicate q x) = q * N := by rw [sumZ_eq _ (by rw [List.length_replicate]; omega), sumI_rep, hxN]
      have hs2 : sumZ (List.replicate q x ++ [x]) = (q + 1) * N := by
        rw [← List.replicate_succ', sumZ_eq _ (by rw [List.length_replicate]; omega), sumI_rep, hxN]; push_cast; rfl
      obtain ⟨S1, e1⟩ : ∃ S, S = (q : Int) * N := ⟨_, rfl⟩
      obtain ⟨S2, e2⟩ : ∃ S, S = ((q : Int) + 1) * N := ⟨_, rfl⟩
      rw [← e1] at hs1 hq1
      rw [← e2] at hs2 hq2
      have d1 : decide (S1 ≤ room) = true := decide_eq_true hq1
      have d2 : decide (room < S2) = true := decide_eq_true hq2
      have HS1 := Lib.hid hs1
      have HS2 := Lib.hid hs2
      clear hs1 hs2 hxN e1 e2 hq1 hq2
      go_enter Try.func15, Try.ntmps15
      go_wp2_with (first | (go_at_call 26; refine (awake17 _).mono ?_; rintro e wa ⟨rfl, hb_wa⟩; have k0 : wa.cell? ⟨w.heap.size, 0, none⟩ = some (.int .i64 x.k) := (cell_keep hb_wa (cell_top rfl rfl)); have k1 : wa.cell? ⟨w.heap.size, 1, none⟩ = some (.int .i64 x.p) := (cell_keep hb_wa (cell_top rfl rfl)); have k2 : wa.cell? ⟨w.heap.size, 2, none⟩ = some (.int .i64 x.e) := (cell_keep hb_wa (cell_top rfl rfl)); have k3 : wa.cell? ⟨w.heap.size, 3, none⟩ = some (.int .i64 x.wh) := (cell_keep hb_wa (cell_top rfl rfl)); have k4 : wa.cell? ⟨w.heap.size, 4, none⟩ = some (.int .i64 x.b) := (cell_keep hb_wa (cell_top rfl rfl)); have k5 : wa.cell? ⟨w.heap.size, 5, none⟩ = some (.int .i64 x.l) := (cell_keep hb_wa (cell_top rfl rfl))) | (go_at_call 27; (with_reducible refine (need_any x.k x.p x.e x.wh x.b x.l _).mono ?_); rw [HN.out]; rintro e wn ⟨rfl, hb_wn⟩))
      rw [hq]
      clear hq
      have B0 : Below w.heap.size w wn := below_then (below_box hb_wa) hb_wn
      have n0 := cell_keep hb_wn k0
      have n1 := cell_keep hb_wn k1
      have n2 := cell_keep hb_wn k2
      have n3 := cell_keep hb_wn k3
      have n4 := cell_keep hb_wn k4
      have n5 := cell_keep hb_wn k5
      have hlt : w.heap.size < wn.heap.size := World.block_lt_of_cell? _ _ n0
      clear k0 k1 k2 k3 k4 k5 hb_wa hb_wn
      go_loopw [6, 24] (fun s6 s24 wr => ∃ k : Nat, k ≤ q ∧ s24 = .int .i64 k ∧ OwnC wr wn.heap.size s6 k (List.replicate k x) ∧ Below wn.heap.size wn wr) (fun s6 s24 wr => q - (intOf s24).toNat)
      case atStart => exact ⟨0, by omega, rfl, OwnC.nil _ _, Below.refl _ _⟩
      case round =>
        obtain ⟨k, hk, rfl, hO, hB⟩ := hrel
        have m0 := (hB.cell (p := ⟨w.heap.size, 0, none⟩) hlt).trans n0
        have m1 := (hB.cell (p := ⟨w.heap.size, 1, none⟩) hlt).trans n1
        have m2 := (hB.cell (p := ⟨w.heap.size, 2, none⟩) hlt).trans n2
        have m3 := (hB.cell (p := ⟨w.heap.size, 3, none⟩) hlt).trans n3
        have m4 := (hB.cell (p := ⟨w.heap.size, 4, none⟩) hlt).trans n4
        have m5 := (hB.cell (p := ⟨w.heap.size, 5, none⟩) hlt).trans n5
        have hsz := hB.size
        clear n0 n1 n2 n3 n4 n5
        by_cases hkq : k < q
        · have hA1 := crAt_lit (w := wr) x
          have hO1 := hO.alloc (.cells #[.int .i64 x.k, .int .i64 x.p, .int .i64 x.e, .int .i64 x.wh, .int .i64 x.b, .int .i64 x.l] 35)
          have hB1 := hB.alloc hsz (.cells #[.int .i64 x.k, .int .i64 x.p, .int .i64 x.e, .int .i64 x.wh, .int .i64 x.b, .int .i64 x.l] 35)
          go_wp2_with (at_builtin; refine wpList_append_crs rfl _ _ rfl (v := u6) (n := k) (xs := List.replicate k x) (ad := some ⟨wr.heap.size, 0, none⟩) (m := 1) (c := 1) (ys := [x]) (base := wn.heap.size) rfl hO1 rfl hA1 ?hn ?hb ?hbase ?_; (case hn => (intro e; cases e)); (case hb => omega); (case hbase => (simp; omega)); intro v' w' hO' hb')
          go_roundw
          case rel => exact ⟨k + 1, by omega, by go_num, by rw [List.replicate_succ']; exact hO', hB1.trans hb'⟩
          case measure => simp [intOf]; omega
        · obtain rfl : q = k := by omega
          obtain ⟨a, c, rfl, hA, hnn⟩ := hO.at (by omega)
          go_wp2_with (first | (go_at_call 34; (with_reducible refine (sum_any a q c _ _ hA).mono ?_); rw [HS1.out]; rintro e ws ⟨rfl, hb_ws⟩; have p0 := cell_keep hb_ws m0; have p1 := cell_keep hb_ws m1; have p2 := cell_keep hb_ws m2; have p3 := cell_keep hb_ws m3; have p4 := cell_keep hb_ws m4; have p5 := cell_keep hb_ws m5; have hA1 := crAt_lit (w := ws) x; have hO1 := (hO.below hb_ws).alloc (.cells #[.int .i64 x.k, .int .i64 x.p, .int .i64 x.e, .int .i64 x.wh, .int .i64 x.b, .int .i64 x.l] 35); have hsw := hb_ws.size) | (at_builtin; refine wpList_unguard ?hw (wpList_append_crs rfl _ _ rfl (v := .slice a q c) (n := q) (xs := List.replicate q x) (ad := some ⟨ws.heap.size, 0, none⟩) (m := 1) (c := 1) (ys := [x]) (base := wn.heap.size) rfl hO1 rfl hA1 ?hn ?hb ?hbase ?_); (case hw => (first | rfl | (simp [Region.wanted, yielded, Act.put]; done))); (case hn => (intro e; cases e)); (case hb => omega); (case hbase => (simp; omega)); intro v' w' hO' hb'; obtain ⟨a2, c2, rfl, hA2, hnn2⟩ := hO'.at (by omega)) | (go_at_call 34; (with_reducible refine (sum_any a2 (q + 1) c2 _ _ hA2).mono ?_); rw [HS2.out]; rintro e wz ⟨rfl, hb_wz⟩))
          go_ret
          have B1 : Below wn.heap.size wn ws := hB.trans (hb_ws.mono hsz)
          have B2 := (B1.alloc B1.size (.cells #[.int .i64 x.k, .int .i64 x.p, .int .i64 x.e, .int .i64 x.wh, .int .i64 x.b, .int .i64 x.l] 35)).trans hb'
          have B3 := B2.trans (hb_wz.mono B2.size)
          exact ⟨ret_bool (by simp), B0.trans (B3.mono B0.size)⟩
namespace costFits
theorem costFits_any (k p e wh b l room : Int) (w : World) (r0 : 0 ≤ room) (r1 : room < 4294967296) :
    Calls Try.prog 15 #[.agg #[.int .i64 k, .int .i64 p, .int .i64 e, .int .i64 wh, .int .i64 b, .int .i64 l], .int .u32 room] w fun e w' => e = .returned (.bool true) ∧ Below w.heap.size w w' :=
  costFits_go ⟨k, p, e, wh, b, l⟩ room w r0 r1
end costFits
end Go.Proofs.Ytpkfaempgibfaaa
