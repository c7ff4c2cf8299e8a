/- The walk of the law CellSeals. -/
import Derived.Test.YtdlghiekcgplaaaCellK
import Derived.Test.YtdlghiekcgplaaaSumsU
import Derived.Test.YtdlghiekcgplaaaRef01
namespace Go.Proofs.Ytdlghiekcgplaaa
set_option linter.unusedVariables false
set_option linter.unusedSimpArgs false
open Go.RowKit
set_option maxRecDepth 100000
set_option maxHeartbeats 4000000
theorem neq_of {P : Program} {t : TypeId} {X Y : Array Value} {b : Bool} {w : World} (h : (binOp .eql t (.agg X) (.agg Y)).run P w = .ok (.bool b) w) : (binOp .neq t (.agg X) (.agg Y)).run P w = .ok (.bool (!b)) w := by
  simp only [binOp] at h ⊢
  rw [Sem.run_bind] at h ⊢
  generalize Sem.run P (Op.equal t (.agg X) (.agg Y)) w = r at h ⊢
  cases r with
  | halt x w' => simp [go_sem] at h
  | ok u w' =>
    simp [go_sem] at h ⊢
    obtain ⟨rfl, rfl⟩ := h
    exact ⟨rfl, rfl⟩
theorem wraps16u (n : Int) (h₀ : 0 ≤ n) (h₁ : n < 2 ^ 16) : IntKind.u16.wrap n = n := by
  have : IntKind.u16.wrap n = n % 65536 := by simp [IntKind.wrap, IntKind.bits, IntKind.signed]
  rw [this]; omega
theorem testBit_u16 (b i : Nat) (hb : b < 65536) : (bits BinOp.and IntKind.u16 ((b : Int) / 2 ^ i) 1 == 1) = b.testBit i := by
  have h2 : (0 : Int) ≤ (b : Int) / 2 ^ i := Int.ediv_nonneg (by omega) (Int.pow_nonneg (by omega))
  have h3 : (b : Int) / 2 ^ i ≤ b := Int.ediv_le_self _ (by omega)
  rw [show bits BinOp.and IntKind.u16 ((b : Int) / 2 ^ i) 1 = (b : Int) / 2 ^ i % 2 from bits_mask .u16 16 (by decide) wraps16u 1 (by decide) _ h2 (by omega)]
  rw [Nat.testBit_eq_decide_div_mod_eq, int_div_pow]
  have e : ((b / 2 ^ i : Nat) : Int) % 2 = ((b / 2 ^ i % 2 : Nat) : Int) := by omega
  rw [e, Bool.eq_iff_iff]
  generalize b / 2 ^ i % 2 = q
  simp only [beq_iff_eq, decide_eq_true_eq]
  omega
theorem quo4 {u q : Int} (h0 : 0 ≤ u) (h1 : u < 256) (h : u / 4 = q) : IntKind.u8.wrap (u.tdiv 4) = q := by
  have e : IntKind.u8.wrap (u.tdiv 4) = u.tdiv 4 % 256 := by simp [IntKind.wrap, IntKind.bits, IntKind.signed]
  rw [e, Int.tdiv_eq_ediv_of_nonneg h0]; omega
theorem lawSeals_walk (ps : List Int) (at' b p : Nat) (X : Array Value) (w : World) (hX : Hid (X = (u8s ps).toArray)) (hlp : Hid (ps.length = 48)) (hbp : Hid (allB ps)) (ha : at' < 65536) (hb : b < 65536) (hpp : Hid (p = at' % 384)) :
    Calls Try.prog 10 #[.agg X, .int .u16 (at' : Int), .int .u16 (b : Int)] w fun e w' => e = .returned (.bool true) ∧ Below w.heap.size w w' := by
  obtain ⟨zs, hzs⟩ : ∃ zs, Hid (zs = sealZ ps) := ⟨_, rfl⟩
  obtain ⟨Z, hZ⟩ : ∃ Z, Hid (Z = (u8s zs).toArray) := ⟨_, rfl⟩
  have hlz : Hid (zs.length = 48) := by rw [hzs.out]; exact (sealZ_len ps).trans hlp.out
  have hbz : Hid (allB zs) := by rw [hzs.out]; exact sealZ_B hbp.out
  have hzz : Hid (sealZ zs = zs) := by rw [hzs.out]; exact seal_seal hlp.out hbp.out
  have hZZ : Hid (Z = (u8s (sealZ zs)).toArray) := by rw [hzz.out]; exact hZ.out
  have hsp : X.size = 48 := sizeP hX hlp.out
  have hsz : Z.size = 48 := sizeP hZ hlz.out
  have hneq : ∀ w, (binOp .neq 44 (.agg Z) (.agg Z)).run Try.prog w = .ok (.bool false) w := fun w => neq_of (b := true) (eq48X hZ hZ hlz.out hlz.out hbz.out hbz.out (by simp) w)
  have h46 : Hid (zs.take 46 = ps.take 46) := by
    rw [hzs.out]
    unfold sealZ
    rw [List.take_set_of_le (by omega), List.take_set_of_le (by omega)]
    rfl
  obtain ⟨u, hu⟩ : ∃ u, ps[46]?.getD 0 = u := ⟨_, rfl⟩
  obtain ⟨v, hv⟩ : ∃ v, zs[46]?.getD 0 = v := ⟨_, rfl⟩
  have hub : 0 ≤ u ∧ u < 256 := by rw [← hu]; exact byte_B hbp.out 46
  have hvb : 0 ≤ v ∧ v < 256 := by rw [← hv]; exact byte_B hbz.out 46
  have huv : v / 4 = u / 4 := by
    rw [← hv, ← hu, hzs.out, sealZ_at hlp.out, if_pos rfl]
    have := regN_bd ps
    omega
  go_enter Try.func10, Try.ntmps10
  go_wp2_with (first | (go_at_call 26; refine (awake04 _).mono ?_; rintro e wa ⟨rfl, hb_wa⟩; have hs_wa := hb_wa.size; (try simp at hs_wa); have h1_wa : w.heap.size < wa.heap.size := (by omega); have P_a : BytesAt wa (some ⟨w.heap.size, 0, none⟩) 48 ps := ((bytes_block hX rfl hlp.out hbp.out).below hb_wa)) | ((with_reducible refine wpList_load48 X ?_ ?_); (focus (exact ⟨_, _, rfl, hsp, range_of P_a hX⟩))) | (go_at_call 28; (with_reducible refine (sealX_any X ps Z _ hX (by rw [← hzs.out]; exact hZ) hlp.out hbp.out).mono ?_); rintro e ws ⟨rfl, hb_ws⟩; have P_s := P_a.below hb_ws) | ((with_reducible refine wpList_fill48 Z ?_ ?_); (focus (exact ⟨rfl, rfl, hsz, oneP hZ, rfl⟩)); intro W hs_W hb_W Z_0; have P_w := P_s.below hb_W; rw [hZ.out] at Z_0; have Z_w := bytes_of_range Z_0 hs_W hlz.out hbz.out))
  have hcell := @Aft.cell W
  have hb0 : w.heap.size < W.heap.size := by have := hb_ws.size; have := hb_W.size; omega
  have cu : W.cell? ⟨w.heap.size, 46, none⟩ = some (.int .u8 u) := by have := P_w.cellAt (k := 46) (by omega); rwa [Nat.zero_add, hu] at this
  have cv : W.cell? ⟨ws.heap.size, 46, none⟩ = some (.int .u8 v) := by have := Z_w.cellAt (k := 46) (by omega); rwa [Nat.zero_add, hv] at this
  have B0 : Below w.heap.size w W := by (repeat' (first | (with_reducible exact Below.refl _ _) | (with_reducible assumption) | (with_reducible refine below_drewN ?_ _) | (with_reducible refine Below.drew ?_) | ((with_reducible refine Below.alloc ?_ ?_ _); (rotate_left; focus (first | omega | (simp; done) | (simp; omega)))) | ((with_reducible refine Below.setCell ?_ ?_ _); (rotate_left; focus (first | omega | (simp; done) | (simp; omega)))) | (with_reducible refine Below.grown ?_ (by assumption) (by first | omega | (simp; omega)) (by simp [Value.ownBlock]; try omega)) | (with_reducible refine below_then ?_ (Aft.below _)) | (with_reducible apply below_then; rotate_left; assumption)))
  have P46 : BytesAt W (some ⟨w.heap.size, 0, none⟩) 46 (ps.take 46) := P_w.head (by omega) (by omega)
  have Z46 : BytesAt W (some ⟨ws.heap.size, 0, none⟩) 46 (zs.take 46) := Z_w.head (by omega) (by omega)
  clear hu hv hb_wa hs_wa h1_wa hb_ws hb_W P_a P_s
  obtain ⟨q, hq⟩ : ∃ q, u / 4 = q := ⟨_, rfl⟩
  have hu4 : IntKind.u8.wrap (u.tdiv 4) = q := quo4 hub.1 hub.2 hq
  have hv4 : IntKind.u8.wrap (v.tdiv 4) = q := quo4 hvb.1 hvb.2 (huv.trans hq)
  clear huv hq
  refine wp_region_hold (by kernel_rfl) (by kernel_rfl) ?_
  (refine wpQuiet_load48X Z (by simp [Region.wanted, yielded]) ⟨_, _, rfl, hsz, fun w' hw' => (by obtain ⟨g, rfl⟩ := hw'; exact range_of (Z_w.below (Aft.below g)) hZ)⟩ ?_); (simp only [Act.put, List.setIfInBounds_toArray, List.set_cons_succ, List.set_cons_zero])
  go_big_quiet_step ((go_at_call 32; exact aft_of (sealedX_any Z zs _ hZ hlz.out hbz.out (b := true) (by rw [hzz.out]; simp))))
  (repeat (go_big_quiet_step (fail)))
  (refine wpQuiet_load48X Z (by simp [Region.wanted, yielded]) ⟨_, _, rfl, hsz, fun w' hw' => (by obtain ⟨g, rfl⟩ := hw'; exact range_of (Z_w.below (Aft.below g)) hZ)⟩ ?_); (simp only [Act.put, List.setIfInBounds_toArray, List.set_cons_succ, List.set_cons_zero])
  go_big_quiet_step ((go_at_call 28; exact aft_of (sealX_any Z zs Z _ hZ hZZ hlz.out hbz.out)))
  (refine wpQuiet_load48X Z (by simp [Region.wanted, yielded]) ⟨_, _, rfl, hsz, fun w' hw' => (by obtain ⟨g, rfl⟩ := hw'; exact range_of (Z_w.below (Aft.below g)) hZ)⟩ ?_); (simp only [Act.put, List.setIfInBounds_toArray, List.set_cons_succ, List.set_cons_zero])
  (repeat (go_big_quiet_step (fail)))
  go_big_quiet_step ((go_at_call 19; exact aft_of (same_eq (b := true) (Z46.below (Aft.below _)) (P46.below (Aft.below _)) (by rw [h46.out]; simp))))
  (repeat (go_big_quiet_step (fail)))
  refine wpQuiet_nil ?_; intro _ hw'; obtain ⟨g, hw''⟩ := hw'; subst hw''; have hg := g.below
  obtain ⟨W3, hW3⟩ : ∃ W3, W3 = g.w := ⟨_, rfl⟩
  have B3 : Below W.heap.size W W3 := by rw [hW3]; exact hg
  rw [← hW3]
  have Z_3 := Z_w.below B3
  have B03 : Below w.heap.size w W3 := B0.trans (B3.mono (by omega))
  clear hW3 hg hneq hu4 hv4 cu cv hcell P46 Z46 hub hvb P_w Z_w Z_0
  have h03 : w.heap.size ≤ W3.heap.size := B03.size
  go_wp2_with (at_builtin; refine wpList_append_bytes rfl _ _ rfl (v := .slice (some ⟨W3.heap.size, 0, none⟩) 0 0) rfl (own_empty W3) rfl (Z_3.below ?hb1) (fun h => nomatch h) ?hb2 ?hb3 ?_; (case hb1 => (repeat' (first | (with_reducible exact Below.refl _ _) | (with_reducible assumption) | (with_reducible refine below_drewN ?_ _) | (with_reducible refine Below.drew ?_) | ((with_reducible refine Below.alloc ?_ ?_ _); (rotate_left; focus (first | omega | (simp; done) | (simp; omega)))) | ((with_reducible refine Below.setCell ?_ ?_ _); (rotate_left; focus (first | omega | (simp; done) | (simp; omega)))) | (with_reducible refine Below.grown ?_ (by assumption) (by first | omega | (simp; omega)) (by simp [Value.ownBlock]; try omega)) | (with_reducible refine below_then ?_ (Aft.below _)) | (with_reducible apply below_then; rotate_left; assumption)))); (case hb2 => omega); (case hb3 => (simp; done)); intro v2 w2 hown hgr; simp only [Nat.zero_add, List.nil_append] at hown; obtain ⟨a2, c2, rfl, hc1, hc2, hB2, hF, hN⟩ := hown.at (by omega))
  have L0 : Below w.heap.size w w2 := by
    have h1 : Below w.heap.size w (W3.alloc (.cells #[] 5)) := by (repeat' (first | (with_reducible exact Below.refl _ _) | (with_reducible assumption) | (with_reducible refine below_drewN ?_ _) | (with_reducible refine Below.drew ?_) | ((with_reducible refine Below.alloc ?_ ?_ _); (rotate_left; focus (first | omega | (simp; done) | (simp; omega)))) | ((with_reducible refine Below.setCell ?_ ?_ _); (rotate_left; focus (first | omega | (simp; done) | (simp; omega)))) | (with_reducible refine Below.grown ?_ (by assumption) (by first | omega | (simp; omega)) (by simp [Value.ownBlock]; try omega)) | (with_reducible refine below_then ?_ (Aft.below _)) | (with_reducible apply below_then; rotate_left; assumption)))
    exact h1.trans (hgr.mono (by omega))
  have hN0 : a2 = none → c2 = 0 := own_nil hown
  clear hown hF hN hgr
  go_loopw [8, 9, 10, 11, 43] (fun s8 s9 s10 s11 s43 wr => ∃ (i : Nat) (ao : Option Addr) (co : Nat), i ≤ 10 ∧ s43 = .int .i64 i ∧ s8 = .slice ao 48 co ∧ s9 = .bool (burstC 384 p b i) ∧ (ao = none → co = 0) ∧ BytesAt wr ao 48 (burstZ zs p b i) ∧ Below w.heap.size w wr) (fun s8 s9 s10 s11 s43 wr => 10 - (intOf s43).toNat)
  case atStart => exact ⟨0, a2, c2, by omega, rfl, rfl, rfl, hN0, hB2, L0⟩
  case round =>
    obtain ⟨i, ao, co, hi, rfl, rfl, rfl, hno, hBo, hBw⟩ := hrel
    by_cases hlt : i < 10
    · have hr : (at' : Int) % 384 = (p : Int) := by rw [hpp.out]; push_cast; rfl
      have hplt : p < 384 := by rw [hpp.out]; omega
      cases ht : b.testBit i
      · have hbt : (bits BinOp.and IntKind.u16 ((b : Int) / 2 ^ i) 1 == 1) = false := by rw [testBit_u16 _ _ hb, ht]
        have hbc : burstC 384 p b (i + 1) = burstC 384 p b i := by show (if _ then _ else _) = _; rw [ht]; rfl
        have hbz : burstZ zs p b (i + 1) = burstZ zs p b i := by show (if _ then _ else _) = _; rw [ht]; rfl
        go_wp2
        go_roundw
        case rel =>
          go_light
          exact ⟨i + 1, ao, co, by omega, by go_num, rfl, by rw [hbc], hno, by rw [hbz]; exact hBo, hBw⟩
        case measure => go_light; simp [intOf]; omega
      · have hbt : (bits BinOp.and IntKind.u16 ((b : Int) / 2 ^ i) 1 == 1) = true := by rw [testBit_u16 _ _ hb, ht]
        by_cases hk : p + i < 384
        · have hk2 : (p : Int) + (i : Int) < 384 := by omega
          have hbc : burstC 384 p b (i + 1) = true := by show (if _ then _ else _) = _; rw [ht, decide_eq_true hk]; rfl
          have hbz : burstZ zs p b (i + 1) = flipZ (burstZ zs p b i) (p + i) := by show (if _ then _ else _) = _; rw [ht, decide_eq_true (by rw [hlz.out]; exact hk)]; rfl
          go_wp2_with (go_at_call 33; (with_reducible refine (flip_any hBo hno (p + i) hk _ ?hfi).mono ?_); (case hfi => push_cast; rfl); rintro e w3 ⟨g3, c3, rfl, hg3, hcl3, hcm3, hB3, hb_w3⟩)
          go_roundw
          case rel =>
            go_light
            exact ⟨i + 1, some ⟨g3, 0, none⟩, c3, by omega, by go_num, rfl, by rw [hbc], (fun h => nomatch h), by rw [hbz]; exact hB3, by (repeat' (first | (with_reducible exact Below.refl _ _) | (with_reducible assumption) | (with_reducible refine below_drewN ?_ _) | (with_reducible refine Below.drew ?_) | ((with_reducible refine Below.alloc ?_ ?_ _); (rotate_left; focus (first | omega | (simp; done) | (simp; omega)))) | ((with_reducible refine Below.setCell ?_ ?_ _); (rotate_left; focus (first | omega | (simp; done) | (simp; omega)))) | (with_reducible refine Below.grown ?_ (by assumption) (by first | omega | (simp; omega)) (by simp [Value.ownBlock]; try omega)) | (with_reducible refine below_then ?_ (Aft.below _)) | (with_reducible apply below_then; rotate_left; assumption)))⟩
          case measure => go_light; simp [intOf]; omega
        · have hk2 : ¬ (p : Int) + (i : Int) < 384 := by omega
          have hbc : burstC 384 p b (i + 1) = burstC 384 p b i := by show (if _ then _ else _) = _; rw [decide_eq_false hk, Bool.and_false]; rfl
          have hbz : burstZ zs p b (i + 1) = burstZ zs p b i := by show (if _ then _ else _) = _; rw [decide_eq_false (by rw [hlz.out]; exact hk), Bool.and_false]; rfl
          go_wp2
          go_roundw
          case rel =>
            go_light
            exact ⟨i + 1, ao, co, by omega, by go_num, rfl, by rw [hbc], hno, by rw [hbz]; exact hBo, hBw⟩
          case measure => go_light; simp [intOf]; omega
    · obtain rfl : i = 10 := by omega
      obtain ⟨C, hC⟩ : ∃ C, burstC 384 p b 10 = C := ⟨_, rfl⟩
      obtain ⟨bz, hz10⟩ : ∃ bz, burstZ zs p b 10 = bz := ⟨_, rfl⟩
      have hlb : Hid (bz.length = 48) := by rw [← hz10]; exact (burst_len zs p b 10).trans hlz.out
      have hbb : Hid (allB bz) := by rw [← hz10]; exact burst_B hbz.out p b 10
      obtain ⟨V, hV⟩ : ∃ V, Hid (V = (u8s bz).toArray) := ⟨_, rfl⟩
      have hsv : V.size = 48 := sizeP hV hlb.out
      have hS : Hid (decide (sealZ bz = bz) = !C) := by
        have h1 := seal_burst hlz.out hbz.out hzz.out p b (by rw [hpp.out]; omega)
        rw [hz10, hC] at h1
        show decide _ = _
        rw [Bool.eq_iff_iff, decide_eq_true_eq, h1]
        cases C <;> simp
      rw [hC]
      rw [hz10] at hBo
      clear hC hz10
      have ha48 := arrB48
      obtain ⟨bo, oo, rfl, hbo, _⟩ := hBo.cells (by omega)
      go_wp2_with (first | ((with_reducible refine wpList_load48 V ?_ ?_); (focus (exact ⟨_, _, rfl, hsv, range_of hBo hV⟩))) | (go_at_call 32; (with_reducible refine (sealedX_any V bz _ hV hlb.out hbb.out hS.out).mono ?_); rintro e wz ⟨rfl, hb_wz⟩))
      go_ret
      go_light
      exact ⟨ret_bool (by simp), by (repeat' (first | (with_reducible exact Below.refl _ _) | (with_reducible assumption) | (with_reducible refine below_drewN ?_ _) | (with_reducible refine Below.drew ?_) | ((with_reducible refine Below.alloc ?_ ?_ _); (rotate_left; focus (first | omega | (simp; done) | (simp; omega)))) | ((with_reducible refine Below.setCell ?_ ?_ _); (rotate_left; focus (first | omega | (simp; done) | (simp; omega)))) | (with_reducible refine Below.grown ?_ (by assumption) (by first | omega | (simp; omega)) (by simp [Value.ownBlock]; try omega)) | (with_reducible refine below_then ?_ (Aft.below _)) | (with_reducible apply below_then; rotate_left; assumption)))⟩
namespace cellSeals
theorem cellSeals_any (ps0 : List Int) (n1 : Int) (n2 : Int) (w : World) (hl0 : ps0.length = 48) (hb0 : allB ps0) (a0 : 0 ≤ n1) (a1 : n1 < 65536) (b0 : 0 ≤ n2) (b1 : n2 < 65536) :
    Calls Try.prog 10 #[.agg (u8s ps0).toArray, .int .u16 n1, .int .u16 n2] w fun e w' => e = .returned (.bool true) ∧ Below w.heap.size w w' := by
  obtain ⟨n, rfl⟩ := Int.eq_ofNat_of_zero_le a0
  obtain ⟨m, rfl⟩ := Int.eq_ofNat_of_zero_le b0
  exact lawSeals_walk ps0 n m _ _ w rfl hl0 hb0 (by omega) (by omega) rfl
end cellSeals
end Go.Proofs.Ytdlghiekcgplaaa
