/- The walk of the law RmcellPacks. -/
import Derived.Test.YtnjjejhniekdcaaRmRefU
import Derived.Test.YtnjjejhniekdcaaRmL2
namespace Go.Proofs.Ytnjjejhniekdcaa
set_option linter.unusedVariables false
set_option linter.unusedSimpArgs false
open Go.RowKit
set_option maxRecDepth 100000
set_option maxHeartbeats 4000000
theorem refUnpack_all (zs : List Int) (b : Nat) (w : World) (hbw : b < w.heap.size) (HZ : BytesAt w (some ⟨b, 0, none⟩) 48 zs) (hb : allB zs) :
    Calls Try.prog 13 #[.slice (some ⟨b, 0, none⟩) 48 48] w fun e w' => e = .returned (.tuple #[.agg (rmU zs).toArray, .int .i64 (unE zs)]) ∧ Below w.heap.size w w' := by
  by_cases hs : sealZ zs = zs
  · have hS : Hid (decide (sealZ zs = zs) = true) := decide_eq_true hs
    by_cases hk : at0 zs 0 = 1
    · have b1 := byte_B hb 1
      unfold isB at b1
      have hok : RmOk (num2 zs 2) (num2 zs 4) (num2 zs 6) (num4 zs 8) (num4 zs 12) := ⟨(num2_bd hb 2).1, (num2_bd hb 2).2, (num2_bd hb 4).1, (num2_bd hb 4).2, (num2_bd hb 6).1, (num2_bd hb 6).2, (num4_bd hb 8).1, (num4_bd hb 8).2, (num4_bd hb 12).1, (num4_bd hb 12).2⟩
      have q1 : (zs[1]?.getD 0 / 128 == 1) = flU zs 128 := by unfold flU at0; rw [Bool.eq_iff_iff, beq_iff_eq, decide_eq_true_eq]; omega
      have q2 : ∀ d, (zs[1]?.getD 0 / d % 2 == 1) = flU zs d := fun d => by unfold flU at0; rw [Bool.eq_iff_iff, beq_iff_eq, decide_eq_true_eq]
      have hr := refUnpack_read zs b w hbw HZ hS hk _ _ _ _ _ rfl rfl rfl rfl rfl hok _ rfl _ _ _ _ _ q1 (q2 64) (q2 32) (q2 16) (q2 8) _ rfl _ _ rfl rfl _ rfl
      refine hr.mono ?_
      rintro e w' ⟨he, hb'⟩
      refine ⟨?_, hb'⟩
      have hfx : (allF zs 30 && ((zs[1]?.getD 0 % 8 == 0) && (zs[46]?.getD 0 / 4 == 0))) = fixZ zs := by
        unfold fixZ
        congr 1
      unfold UnQ at he
      rw [hfx] at he
      rw [he]
      unfold rmU unE
      rw [if_pos hs, if_pos hk]
      cases hf : fixZ zs with
      | true =>
        cases hR : rights (num2 zs 2) (num2 zs 4) (num2 zs 6) with
        | true => simp
        | false => simp
      | false => simp
    · refine (refUnpack_kind zs b w HZ hS hk).mono ?_
      rintro e w' ⟨he, hb'⟩
      refine ⟨?_, hb'⟩
      rw [he]
      unfold rmU unE
      rw [if_pos hs, if_neg hk]
      simp
  · refine (refUnpack_sum zs b w HZ (decide_eq_false hs)).mono ?_
    rintro e w' ⟨he, hb'⟩
    refine ⟨?_, hb'⟩
    rw [he]
    unfold rmU unE
    rw [if_neg hs]
    simp
theorem rmU_ex {zs : List Int} (hb : allB zs) : ∃ (gk gn gc gi gr : Bool) (x1 x2 x3 x4 x5 : Int), rmU zs = rmV gk gn gc gi gr x1 x2 x3 x4 x5 ∧ RmOk x1 x2 x3 x4 x5 := by
  unfold rmU
  by_cases h : unE zs = 0
  · rw [if_pos h]
    exact ⟨_, _, _, _, _, _, _, _, _, _, rfl, ⟨(num2_bd hb 2).1, (num2_bd hb 2).2, (num2_bd hb 4).1, (num2_bd hb 4).2, (num2_bd hb 6).1, (num2_bd hb 6).2, (num4_bd hb 8).1, (num4_bd hb 8).2, (num4_bd hb 12).1, (num4_bd hb 12).2⟩⟩
  · rw [if_neg h]
    exact ⟨_, _, _, _, _, _, _, _, _, _, rfl, ⟨by omega, by omega, by omega, by omega, by omega, by omega, by omega, by omega, by omega, by omega⟩⟩
theorem neq_val {P : Program} {t : TypeId} {a a' : Option Addr} {n c n' c' : Nat} {b : Bool} {w : World} (h : (binOp .eql t (.slice a n c) (.slice a' n' c')).run P w = .ok (.bool b) w) : (binOp .neq t (.slice a n c) (.slice a' n' c')).run P w = .ok (.bool (!b)) w := by
  simp only [binOp] at h ⊢
  rw [Sem.run_bind] at h ⊢
  generalize Sem.run P (Op.equal t (.slice a n c) (.slice a' n' c')) w = r at h ⊢
  cases r with
  | halt x w' => simp [go_sem] at h
  | ok u w' =>
    simp [go_sem] at h ⊢
    obtain ⟨rfl, rfl⟩ := h
    exact ⟨rfl, rfl⟩
theorem wpList_build48 {ops : Array Oper} {rest : List Oper} {a : Act} {w : World} {dst : Option Nat} {ty : TypeId} {pos : String} {after : Array Edge} {gd : Option (Nat × Bool)} {Q : Exit → Act → World → Prop} (Z : Array Value) (hZ : Hid (Z = (u8s z48).toArray)) (hw : Region.wanted ⟨dst, .build 26 #[], ty, pos, after, gd⟩ (yielded ops a.tmps) = true)
    (h : wpList Try.prog ops Q rest (a.put dst (.agg Z)) w) : wpList Try.prog ops Q (⟨dst, .build 26 #[], ty, pos, after, gd⟩ :: rest) a w := by
  refine wpList_unguard hw ?_
  refine wpList_run rfl ?_ h
  have hr : (Instr.build 26 #[]).run Try.prog w = .ok (.agg (u8s z48).toArray) w := run_build w _ _ _ (by kernel_rfl)
  unfold execOp
  rw [hZ.out]
  simp only [Sem.run_bind, Array.mapM_empty, Sem.run_pure, Result.andThen_ok, hr, Array.map_empty]
theorem lawPacks_yes (bk nr ci ni ra : Bool) (er cc mc ql sn : Int) (ps : List Int) (w : World) (P : Array Value) (hP : Hid (P = (u8s ps).toArray)) (hlp : Hid (ps.length = 48)) (hbp : Hid (allB ps)) (h : RmOk er cc mc ql sn) (hr : Hid (rights er cc mc = true)) (gk gn gc gi gr : Bool) (x1 x2 x3 x4 x5 Er : Int) (hV : Hid (rmU ps = rmV gk gn gc gi gr x1 x2 x3 x4 x5)) (hx : Hid (RmOk x1 x2 x3 x4 x5)) (hEr : Hid (unE ps = Er)) :
    Calls Try.prog 3 #[.agg (rmV bk nr ci ni ra er cc mc ql sn).toArray, .agg P] w fun e w' => e = .returned (.bool true) ∧ Below w.heap.size w w' := by
  have hsp : P.size = 48 := sizeP hP hlp.out
  obtain ⟨zs, hzs⟩ : ∃ zs, Hid (zs = pkZ bk nr ci ni ra er cc mc ql sn) := ⟨_, rfl⟩
  have hz2 : Hid (sealZ (packZ bk nr ci ni ra er cc mc ql sn) = zs) := by
    have := hzs.out
    unfold pkZ at this
    rw [if_pos hr.out] at this
    exact this.symm
  have hlz : Hid (zs.length = 48) := by rw [hzs.out]; exact pkZ_len ..
  have hbz : Hid (allB zs) := by rw [hzs.out]; exact pkZ_B _ _ _ _ _ _ _ _ _ _
  have hE : Hid ((0 : Int) = if rights er cc mc = true then 0 else 1) := by rw [hr.out]; rfl
  have hfb := hbp.out
  go_enter Try.func3, Try.ntmps3
  go_wp2_with (first | (go_at_call 9; refine (awake13 _).mono ?_; rintro e wa ⟨rfl, hb_wa⟩; have hs_wa := hb_wa.size; (try simp at hs_wa); have RA_a := RmAt.below ((rmAt_at (bk := bk) (nr := nr) (ci := ci) (ni := ni) (ra := ra) (er := er) (cc := cc) (mc := mc) (ql := ql) (sn := sn) rfl).below ((Below.refl _ _).alloc (Nat.le_refl _) _)) hb_wa; have P_a : BytesAt wa (some ⟨w.heap.size + 1, 0, none⟩) 48 ps := ((bytes_block hP (by simp) hlp.out hbp.out).below hb_wa)) | ((with_reducible refine wpList_load25G (rmV bk nr ci ni ra er cc mc ql sn) ?_ ?_ ?_); (focus rfl); (focus (exact ⟨_, rfl, rfl, (by first | exact rm_range RA_1 | exact rm_range RA_a)⟩))) | (go_at_call 10; (with_reducible refine (pack_all bk nr ci ni ra er cc mc ql sn _ h hE).mono ?_); rintro e wp ⟨X, rfl, hX, hb_wp⟩; rw [← hzs.out] at hX; have hsx := sizeP hX hlz.out; have hs_wp := hb_wp.size; have P_p := P_a.below hb_wp; have RA_p := RA_a.below hb_wp) | ((with_reducible refine wpList_fill48 (w := wp) X ?_ ?_); (focus (exact ⟨rfl, rfl, hsx, oneP hX, rfl⟩)); intro W1 hs_W1 hb_W1 X_1; have P_1 := P_p.below hb_W1; have RA_1 := RA_p.below hb_W1; have X_1z := bytes_of_range (by rw [hX.out] at X_1; exact X_1) hs_W1 hlz.out hbz.out) | (go_at_call 11; (with_reducible refine (refPack_yes bk nr ci ni ra er cc mc ql sn _ h hr.out).mono ?_); rw [hz2.out]; rintro e wq ⟨a3, c3, rfl, A_q, n_q, hb_wq⟩; have P_q := P_1.below hb_wq; have X_q := X_1z.below hb_wq; have hn3 : (∀ w, (binOp .eql 32 (.slice a3 48 c3) (.slice none 0 0)).run Try.prog w = .ok (.bool false) w) := (fun w => by obtain ⟨b3, o3, e3, _⟩ := A_q.cells (by omega); rw [e3]; exact eq_nil27 _ 48 c3 w); have hn4 : (∀ w, (binOp .neq 32 (.slice a3 48 c3) (.slice none 0 0)).run Try.prog w = .ok (.bool true) w) := (fun w => neq_val (hn3 w))) | ((with_reducible refine wpList_load48 P ?_ ?_); (focus (exact ⟨_, _, rfl, hsp, range_of P_q hP⟩))) | (go_at_call 12; (with_reducible refine (unpack_all ps P _ hP hlp.out hbp.out).mono ?_); rw [hV.out, hEr.out]; rintro e wu ⟨rfl, hb_wu⟩; have P_u := P_q.below hb_wu; have X_u := X_q.below hb_wu; have A_u := A_q.below hb_wu) | ((with_reducible refine wpList_fill31 (w := wu) (rmV gk gn gc gi gr x1 x2 x3 x4 x5) ?_ ?_); (focus (exact ⟨rfl, rfl, rfl, one_rm _ _ _ _ _ _ _ _ _ _, rfl⟩)); intro W2 hs_W2 hb_W2 U_2; have P_2 := P_u.below hb_W2; have X_2 := X_u.below hb_W2; have A_2 := A_u.below hb_W2; have hlt2 : w.heap.size + 1 < W2.heap.size := (by obtain ⟨bb, oo, e5, hh, _⟩ := P_2.cells (by omega); injection e5 with e5; injection e5 with e5 _; omega)) | (go_at_call 13; (with_reducible refine (refUnpack_all ps (w.heap.size + 1) _ hlt2 P_2 hfb).mono ?_); rw [hV.out, hEr.out]; rintro e wv ⟨rfl, hb_wv⟩; have X_v := X_2.below hb_wv; have A_v := A_2.below hb_wv; have U_v := range_below U_2 hb_wv) | ((with_reducible refine wpList_fill25 (w := wv) (rmV gk gn gc gi gr x1 x2 x3 x4 x5) ?_ ?_); (focus (exact ⟨rfl, rfl, rfl, one_rm _ _ _ _ _ _ _ _ _ _, rfl⟩)); intro W3 hs_W3 hb_W3 V_3; have X_3 := X_v.below hb_W3; have A_3 := A_v.below hb_W3; have U_3 := range_below U_v hb_W3; have heT := fun w => eq_rm (bk := gk) (nr := gn) (ci := gc) (ni := gi) (ra := gr) (bk' := gk) (nr' := gn) (ci' := gc) (ni' := gi) (ra' := gr) (.inr rfl) hx.out hx.out (b := true) (by simp) w) | (go_at_call 14; (refine (same_eq (b := true) X_3 A_3 (by simp)).mono ?_); rintro e ws ⟨rfl, hb_ws⟩; have U_s := range_below U_3 hb_ws; have V_s := range_below V_3 hb_ws) | ((with_reducible refine wpList_load31G (rmV gk gn gc gi gr x1 x2 x3 x4 x5) ?_ ?_ ?_); (focus (first | rfl | (simp [Region.wanted, yielded, Act.put]; done))); (focus (exact ⟨_, rfl, rfl, U_s⟩))) | ((with_reducible refine wpList_load25G (rmV gk gn gc gi gr x1 x2 x3 x4 x5) ?_ ?_ ?_); (focus (first | rfl | (simp [Region.wanted, yielded, Act.put]; done))); (focus (exact ⟨_, rfl, rfl, V_s⟩))))
  go_ret
  refine ⟨rfl, ?_⟩
  have h1 : Below w.heap.size w wa := by (repeat' (first | (with_reducible exact Below.refl _ _) | (with_reducible assumption) | (with_reducible refine below_drewN ?_ _) | (with_reducible refine Below.drew ?_) | ((with_reducible refine Below.alloc ?_ ?_ _); (rotate_left; focus (first | omega | (simp; done) | (simp; omega)))) | ((with_reducible refine Below.setCell ?_ ?_ _); (rotate_left; focus (first | omega | (simp; done) | (simp; omega)))) | (with_reducible refine Below.grown ?_ (by assumption) (by first | omega | (simp; omega)) (by simp [Value.ownBlock]; try omega)) | (with_reducible refine below_then ?_ (Aft.below _)) | (with_reducible apply below_then; rotate_left; assumption)))
  have h2 := h1.trans (hb_wp.mono h1.size)
  have h3 := h2.trans (hb_W1.mono h2.size)
  have h4 := h3.trans (hb_wq.mono h3.size)
  have h5 := h4.trans (hb_wu.mono h4.size)
  have h6 := h5.trans (hb_W2.mono h5.size)
  have h7 := h6.trans (hb_wv.mono h6.size)
  have h8 := h7.trans (hb_W3.mono h7.size)
  exact h8.trans (hb_ws.mono h8.size)
theorem lawPacks_no (bk nr ci ni ra : Bool) (er cc mc ql sn : Int) (ps : List Int) (w : World) (P : Array Value) (hP : Hid (P = (u8s ps).toArray)) (hlp : Hid (ps.length = 48)) (hbp : Hid (allB ps)) (h : RmOk er cc mc ql sn) (hr : Hid (rights er cc mc = false)) (gk gn gc gi gr : Bool) (x1 x2 x3 x4 x5 Er : Int) (hV : Hid (rmU ps = rmV gk gn gc gi gr x1 x2 x3 x4 x5)) (hx : Hid (RmOk x1 x2 x3 x4 x5)) (hEr : Hid (unE ps = Er)) :
    Calls Try.prog 3 #[.agg (rmV bk nr ci ni ra er cc mc ql sn).toArray, .agg P] w fun e w' => e = .returned (.bool true) ∧ Below w.heap.size w w' := by
  have hsp : P.size = 48 := sizeP hP hlp.out
  obtain ⟨zs, hzs⟩ : ∃ zs, Hid (zs = pkZ bk nr ci ni ra er cc mc ql sn) := ⟨_, rfl⟩
  have hz2 : Hid (zs = z48) := by
    have := hzs.out
    unfold pkZ at this
    rw [if_neg (by rw [hr.out]; simp)] at this
    exact this
  obtain ⟨Z, hZ⟩ : ∃ Z, Hid (Z = (u8s z48).toArray) := ⟨_, rfl⟩
  have hlz : Hid (zs.length = 48) := by rw [hzs.out]; exact pkZ_len ..
  have hbz : Hid (allB zs) := by rw [hzs.out]; exact pkZ_B _ _ _ _ _ _ _ _ _ _
  have hE : Hid ((1 : Int) = if rights er cc mc = true then 0 else 1) := by rw [hr.out]; rfl
  have hfb := hbp.out
  go_enter Try.func3, Try.ntmps3
  go_wp2_with (first | (go_at_call 9; refine (awake13 _).mono ?_; rintro e wa ⟨rfl, hb_wa⟩; have hs_wa := hb_wa.size; (try simp at hs_wa); have RA_a := RmAt.below ((rmAt_at (bk := bk) (nr := nr) (ci := ci) (ni := ni) (ra := ra) (er := er) (cc := cc) (mc := mc) (ql := ql) (sn := sn) rfl).below ((Below.refl _ _).alloc (Nat.le_refl _) _)) hb_wa; have P_a : BytesAt wa (some ⟨w.heap.size + 1, 0, none⟩) 48 ps := ((bytes_block hP (by simp) hlp.out hbp.out).below hb_wa)) | ((with_reducible refine wpList_load25G (rmV bk nr ci ni ra er cc mc ql sn) ?_ ?_ ?_); (focus rfl); (focus (exact ⟨_, rfl, rfl, (by first | exact rm_range RA_1 | exact rm_range RA_a)⟩))) | (go_at_call 10; (with_reducible refine (pack_all bk nr ci ni ra er cc mc ql sn _ h hE).mono ?_); rintro e wp ⟨X, rfl, hX, hb_wp⟩; rw [← hzs.out] at hX; have hsx := sizeP hX hlz.out; have hs_wp := hb_wp.size; have P_p := P_a.below hb_wp; have RA_p := RA_a.below hb_wp) | ((with_reducible refine wpList_fill48 (w := wp) X ?_ ?_); (focus (exact ⟨rfl, rfl, hsx, oneP hX, rfl⟩)); intro W1 hs_W1 hb_W1 X_1; have P_1 := P_p.below hb_W1; have RA_1 := RA_p.below hb_W1; have X_1z := bytes_of_range (by rw [hX.out] at X_1; exact X_1) hs_W1 hlz.out hbz.out) | (go_at_call 11; (with_reducible refine (refPack_no bk nr ci ni ra er cc mc ql sn _ h hr.out).mono ?_); rintro e wq ⟨rfl, hb_wq⟩; have P_q := P_1.below hb_wq; have X_q := X_1z.below hb_wq; have hn3 := (fun w => eq_nil27 none 0 0 w); have hn4 := (fun w => neq_val (eq_nil27 none 0 0 w)); (simp only [Option.isNone_none, Bool.not_true] at hn3 hn4)) | ((with_reducible refine wpList_load48 P ?_ ?_); (focus (exact ⟨_, _, rfl, hsp, range_of P_q hP⟩))) | (go_at_call 12; (with_reducible refine (unpack_all ps P _ hP hlp.out hbp.out).mono ?_); rw [hV.out, hEr.out]; rintro e wu ⟨rfl, hb_wu⟩; have P_u := P_q.below hb_wu; have X_u := X_q.below hb_wu) | ((with_reducible refine wpList_fill31 (w := wu) (rmV gk gn gc gi gr x1 x2 x3 x4 x5) ?_ ?_); (focus (exact ⟨rfl, rfl, rfl, one_rm _ _ _ _ _ _ _ _ _ _, rfl⟩)); intro W2 hs_W2 hb_W2 U_2; have P_2 := P_u.below hb_W2; have X_2 := X_u.below hb_W2; have hlt2 : w.heap.size + 1 < W2.heap.size := (by obtain ⟨bb, oo, e5, hh, _⟩ := P_2.cells (by omega); injection e5 with e5; injection e5 with e5 _; omega)) | (go_at_call 13; (with_reducible refine (refUnpack_all ps (w.heap.size + 1) _ hlt2 P_2 hfb).mono ?_); rw [hV.out, hEr.out]; rintro e wv ⟨rfl, hb_wv⟩; have X_v := X_2.below hb_wv; have U_v := range_below U_2 hb_wv) | ((with_reducible refine wpList_fill25 (w := wv) (rmV gk gn gc gi gr x1 x2 x3 x4 x5) ?_ ?_); (focus (exact ⟨rfl, rfl, rfl, one_rm _ _ _ _ _ _ _ _ _ _, rfl⟩)); intro W3 hs_W3 hb_W3 V_3; have X_3 := X_v.below hb_W3; have heZ := (fun w => neq_of (eq48X hX hZ hlz.out (List.length_replicate ..) hbz.out z48_B (b := true) (by rw [hz2.out]; simp) w)); have U_3 := range_below U_v hb_W3; have heT := fun w => eq_rm (bk := gk) (nr := gn) (ci := gc) (ni := gi) (ra := gr) (bk' := gk) (nr' := gn) (ci' := gc) (ni' := gi) (ra' := gr) (.inr rfl) hx.out hx.out (b := true) (by simp) w) | ((with_reducible refine wpList_load48G X ?_ ?_ ?_); (focus (first | rfl | (simp [Region.wanted, yielded, Act.put]; done))); (focus (exact ⟨_, _, rfl, hsx, range_of X_3 hX⟩))) | ((with_reducible refine wpList_build48 Z hZ ?_ ?_); (focus (first | rfl | (simp [Region.wanted, yielded, Act.put]; done)))) | ((with_reducible refine wpList_load31G (rmV gk gn gc gi gr x1 x2 x3 x4 x5) ?_ ?_ ?_); (focus (first | rfl | (simp [Region.wanted, yielded, Act.put]; done))); (focus (exact ⟨_, rfl, rfl, U_3⟩))) | ((with_reducible refine wpList_load25G (rmV gk gn gc gi gr x1 x2 x3 x4 x5) ?_ ?_ ?_); (focus (first | rfl | (simp [Region.wanted, yielded, Act.put]; done))); (focus (exact ⟨_, rfl, rfl, V_3⟩))))
  go_ret
  refine ⟨rfl, ?_⟩
  have h1 : Below w.heap.size w wa := by (repeat' (first | (with_reducible exact Below.refl _ _) | (with_reducible assumption) | (with_reducible refine below_drewN ?_ _) | (with_reducible refine Below.drew ?_) | ((with_reducible refine Below.alloc ?_ ?_ _); (rotate_left; focus (first | omega | (simp; done) | (simp; omega)))) | ((with_reducible refine Below.setCell ?_ ?_ _); (rotate_left; focus (first | omega | (simp; done) | (simp; omega)))) | (with_reducible refine Below.grown ?_ (by assumption) (by first | omega | (simp; omega)) (by simp [Value.ownBlock]; try omega)) | (with_reducible refine below_then ?_ (Aft.below _)) | (with_reducible apply below_then; rotate_left; assumption)))
  have h2 := h1.trans (hb_wp.mono h1.size)
  have h3 := h2.trans (hb_W1.mono h2.size)
  have h4 := h3.trans (hb_wq.mono h3.size)
  have h5 := h4.trans (hb_wu.mono h4.size)
  have h6 := h5.trans (hb_W2.mono h5.size)
  have h7 := h6.trans (hb_wv.mono h6.size)
  exact h7.trans (hb_W3.mono h7.size)
namespace rmcellPacks
theorem rmcellPacks_any (bk nr ci ni ra : Bool) (er cc mc ql sn : Int) (ps : List Int) (w : World) (z1 : 0 ≤ er) (z2 : er < 65536) (z3 : 0 ≤ cc) (z4 : cc < 65536) (z5 : 0 ≤ mc) (z6 : mc < 65536) (z7 : 0 ≤ ql) (z8 : ql < 4294967296) (z9 : 0 ≤ sn) (z10 : sn < 4294967296) (hl : ps.length = 48) (hb : allB ps) :
    Calls Try.prog 3 #[.agg #[.bool bk, .bool nr, .bool ci, .bool ni, .bool ra, .int .u16 er, .int .u16 cc, .int .u16 mc, .int .u32 ql, .int .u32 sn], .agg (u8s ps).toArray] w fun e w' => e = .returned (.bool true) ∧ Below w.heap.size w w' := by
  have h : RmOk er cc mc ql sn := ⟨z1, z2, z3, z4, z5, z6, z7, z8, z9, z10⟩
  obtain ⟨gk, gn, gc, gi, gr, x1, x2, x3, x4, x5, hV, hx⟩ := rmU_ex hb
  cases hr : rights er cc mc with
  | true => exact lawPacks_yes bk nr ci ni ra er cc mc ql sn ps w _ rfl hl hb h hr gk gn gc gi gr x1 x2 x3 x4 x5 _ hV hx rfl
  | false => exact lawPacks_no bk nr ci ni ra er cc mc ql sn ps w _ rfl hl hb h hr gk gn gc gi gr x1 x2 x3 x4 x5 _ hV hx rfl
end rmcellPacks
end Go.Proofs.Ytnjjejhniekdcaa
