/- The walk of the law CellBuilds. -/
import Derived.Test.YtdlghiekcgplaaaCellK
import Derived.Test.YtdlghiekcgplaaaRefE
import Derived.Test.YtdlghiekcgplaaaHeadR
import Derived.Test.YtdlghiekcgplaaaLead
namespace Go.Proofs.Ytdlghiekcgplaaa
set_option linter.unusedVariables false
set_option linter.unusedSimpArgs false
open Go.RowKit
set_option maxRecDepth 100000
set_option maxHeartbeats 4000000
theorem refBuild_out (g p c t l : Int) (nni : Bool) {zs : List Int} {a : Option Addr} {cap : Nat} (w : World) (HZ : BytesAt w a 48 zs) (na : a = none → cap = 0) :
    Calls Try.prog 29 #[.agg #[.int .i64 g, .int .i64 p, .int .i64 c, .int .i64 t, .int .i64 l], .slice a 48 cap, .bool nni] w fun e w' => ∃ a' n cc, e = .returned (.slice a' n cc) ∧ BytesAt w' a' n (outZ nni g p c t l zs) ∧ Below w.heap.size w w' := by
  unfold outZ
  cases h : rightH nni g p c t l with
  | true =>
    refine (refBuild_yes g p c t l _ nni w h rfl HZ na).mono ?_
    rintro e w' ⟨v, rfl, own, hbw⟩
    obtain ⟨a1, c1, rfl, hac1, hcm1, HB1, HF1, HN1⟩ := own.at (by omega)
    exact ⟨a1, 53, c1, rfl, HB1, hbw⟩
  | false => exact (refBuild_no g p c t l nni w h).mono fun e w' ⟨he, hbw⟩ => ⟨none, 0, 0, he, BytesAt.nil _, hbw⟩
theorem refRight_as (g p c t l : Int) (nni : Bool) (w : World) {R : Bool} (h : Hid (rightH nni g p c t l = R)) : Calls Try.prog 22 #[.agg #[.int .i64 g, .int .i64 p, .int .i64 c, .int .i64 t, .int .i64 l], .bool nni] w fun e w' => e = .returned (.bool R) ∧ Below w.heap.size w w' := by
  rw [← h.out]; exact refRight_h g p c t l nni w
theorem refKind_as (g p c t l : Int) (w : World) {K : Int} (h : Hid (kindZ p c t l = K)) : Calls Try.prog 25 #[.agg #[.int .i64 g, .int .i64 p, .int .i64 c, .int .i64 t, .int .i64 l]] w fun e w' => e = .returned (.int .i64 K) ∧ Below w.heap.size w w' := by
  rw [← h.out]; exact refKind_any g p c t l w
theorem lawBuilds_walk (g p c t l : Int) (ps : List Int) (nni : Bool) (X : Array Value) (w : World) (hX : Hid (X = (u8s ps).toArray)) (hlp : Hid (ps.length = 48)) (hbp : Hid (allB ps)) (R : Bool) (hR : Hid (rightH nni g p c t l = R)) (E K : Int) (hE : Hid (E = if rightH nni g p c t l then 0 else 1)) (hK : Hid (kindZ p c t l = K)) (S : Bool) (hS : Hid (decide (sealZ ps = ps) = S))
    (hE0 : (E == 0) = R) (hE1 : (E == 1) = !R) (E2 E3 : Bool) (hK2 : (K == 2) = E2) (hK3 : (K == 3) = E3) (hK4 : Hid (decide (kindZ p c t l = 2 ∨ kindZ p c t l = 3) = (E2 || E3))) :
    Calls Try.prog 9 #[.agg #[.int .i64 g, .int .i64 p, .int .i64 c, .int .i64 t, .int .i64 l], .agg X, .bool nni] w fun e w' => e = .returned (.bool true) ∧ Below w.heap.size w w' := by
  obtain ⟨Y, hY⟩ : ∃ Y, Hid (Y = (cellV g p c t l ps).toArray) := ⟨_, rfl⟩
  obtain ⟨Z, hZ⟩ : ∃ Z, Hid (Z = (u8s (sealZ ps)).toArray) := ⟨_, rfl⟩
  have hlz : Hid ((sealZ ps).length = 48) := (sealZ_len ps).trans hlp.out
  have hbz : Hid (allB (sealZ ps)) := sealZ_B hbp.out
  have hsp : X.size = 48 := sizeP hX hlp.out
  have hsy : Y.size = 53 := sizeX hY hlp.out
  have hsz : Z.size = 48 := sizeP hZ hlz.out
  go_enter Try.func9, Try.ntmps9
  go_wp2_with (first | (go_at_call 26; refine (awake04 _).mono ?_; rintro e wa ⟨rfl, hb_wa⟩; have hs_wa := hb_wa.size; (try simp at hs_wa); have h1_wa : w.heap.size < wa.heap.size := (by omega); have P_a : BytesAt wa (some ⟨w.heap.size + 1, 0, none⟩) 48 ps := ((bytes_block hX (by simp) hlp.out hbp.out).below hb_wa); have ka_0 : wa.cell? ⟨w.heap.size, 0, none⟩ = some (.int .i64 g) := (by (repeat (first | (with_reducible assumption) | ((with_reducible refine cell_top ?_ rfl); first | (with_reducible rfl) | (simp; done)) | (with_reducible apply cell_drew) | (with_reducible apply cell_drewN) | ((with_reducible apply cell_keep); focus (with_reducible assumption)) | (with_reducible refine cell_keep (Aft.below _) ?_) | (with_reducible apply cell_set) | ((with_reducible apply cell_off); focus (decide)) | ((with_reducible apply cell_beside); focus (first | omega | (simp; done) | (simp; omega))) | ((with_reducible apply cell_under); focus (first | omega | (simp; done) | (simp; omega)))))); have ka_1 : wa.cell? ⟨w.heap.size, 1, none⟩ = some (.int .i64 p) := (by (repeat (first | (with_reducible assumption) | ((with_reducible refine cell_top ?_ rfl); first | (with_reducible rfl) | (simp; done)) | (with_reducible apply cell_drew) | (with_reducible apply cell_drewN) | ((with_reducible apply cell_keep); focus (with_reducible assumption)) | (with_reducible refine cell_keep (Aft.below _) ?_) | (with_reducible apply cell_set) | ((with_reducible apply cell_off); focus (decide)) | ((with_reducible apply cell_beside); focus (first | omega | (simp; done) | (simp; omega))) | ((with_reducible apply cell_under); focus (first | omega | (simp; done) | (simp; omega)))))); have ka_2 : wa.cell? ⟨w.heap.size, 2, none⟩ = some (.int .i64 c) := (by (repeat (first | (with_reducible assumption) | ((with_reducible refine cell_top ?_ rfl); first | (with_reducible rfl) | (simp; done)) | (with_reducible apply cell_drew) | (with_reducible apply cell_drewN) | ((with_reducible apply cell_keep); focus (with_reducible assumption)) | (with_reducible refine cell_keep (Aft.below _) ?_) | (with_reducible apply cell_set) | ((with_reducible apply cell_off); focus (decide)) | ((with_reducible apply cell_beside); focus (first | omega | (simp; done) | (simp; omega))) | ((with_reducible apply cell_under); focus (first | omega | (simp; done) | (simp; omega)))))); have ka_3 : wa.cell? ⟨w.heap.size, 3, none⟩ = some (.int .i64 t) := (by (repeat (first | (with_reducible assumption) | ((with_reducible refine cell_top ?_ rfl); first | (with_reducible rfl) | (simp; done)) | (with_reducible apply cell_drew) | (with_reducible apply cell_drewN) | ((with_reducible apply cell_keep); focus (with_reducible assumption)) | (with_reducible refine cell_keep (Aft.below _) ?_) | (with_reducible apply cell_set) | ((with_reducible apply cell_off); focus (decide)) | ((with_reducible apply cell_beside); focus (first | omega | (simp; done) | (simp; omega))) | ((with_reducible apply cell_under); focus (first | omega | (simp; done) | (simp; omega)))))); have ka_4 : wa.cell? ⟨w.heap.size, 4, none⟩ = some (.int .i64 l) := (by (repeat (first | (with_reducible assumption) | ((with_reducible refine cell_top ?_ rfl); first | (with_reducible rfl) | (simp; done)) | (with_reducible apply cell_drew) | (with_reducible apply cell_drewN) | ((with_reducible apply cell_keep); focus (with_reducible assumption)) | (with_reducible refine cell_keep (Aft.below _) ?_) | (with_reducible apply cell_set) | ((with_reducible apply cell_off); focus (decide)) | ((with_reducible apply cell_beside); focus (first | omega | (simp; done) | (simp; omega))) | ((with_reducible apply cell_under); focus (first | omega | (simp; done) | (simp; omega))))))) | ((with_reducible refine wpList_load48 X ?_ ?_); (focus (exact ⟨_, _, rfl, hsp, (by first | exact range_of P_r hX | exact range_of P_a hX)⟩))) | ((with_reducible refine wpList_build46 Y g p c t l ps hY ?_ ?_); (focus (exact ⟨rfl, by rw [← hX.out]; rfl, hlp.out⟩))) | ((with_reducible refine wpList_fill46 Y ?_ ?_); (focus (exact ⟨rfl, rfl, hsy, oneX hY, rfl⟩)); intro W1 hs_W1 hb_W1 Y_1; have P_1 := P_a.below hb_W1; have k1_0 := cell_keep hb_W1 ka_0; have k1_1 := cell_keep hb_W1 ka_1; have k1_2 := cell_keep hb_W1 ka_2; have k1_3 := cell_keep hb_W1 ka_3; have k1_4 := cell_keep hb_W1 ka_4) | ((with_reducible refine wpList_load46 Y ?_ ?_); (focus (exact ⟨_, rfl, hsy, Y_1⟩))) | (go_at_call 27; (with_reducible refine (buildX_out Y g p c t l nni ps _ hY hlp.out hbp.out hE).mono ?_); rintro e wb ⟨a1, n1, c1, rfl, B_b, hb_wb⟩; have P_b := P_1.below hb_wb; have Y_b := range_below Y_1 hb_wb; have kb_0 := cell_keep hb_wb k1_0; have kb_1 := cell_keep hb_wb k1_1; have kb_2 := cell_keep hb_wb k1_2; have kb_3 := cell_keep hb_wb k1_3; have kb_4 := cell_keep hb_wb k1_4) | (go_at_call 22; (with_reducible refine (refRight_as g p c t l nni _ hR).mono ?_); rintro e wr ⟨rfl, hb_wr⟩; have P_r := P_b.below hb_wr; have Y_r := range_below Y_b hb_wr; have B_r := B_b.below hb_wr; have kr_0 := cell_keep hb_wr kb_0; have kr_1 := cell_keep hb_wr kb_1; have kr_2 := cell_keep hb_wr kb_2; have kr_3 := cell_keep hb_wr kb_3; have kr_4 := cell_keep hb_wr kb_4) | (go_at_call 28; (with_reducible refine (sealX_any X ps Z _ hX hZ hlp.out hbp.out).mono ?_); rintro e ws ⟨rfl, hb_ws⟩; have P_s := P_r.below hb_ws; have Y_s := range_below Y_r hb_ws; have B_s := B_r.below hb_ws; have ks_0 := cell_keep hb_ws kr_0; have ks_1 := cell_keep hb_ws kr_1; have ks_2 := cell_keep hb_ws kr_2; have ks_3 := cell_keep hb_ws kr_3; have ks_4 := cell_keep hb_ws kr_4) | ((with_reducible refine wpList_fill48 Z ?_ ?_); (focus (exact ⟨rfl, rfl, hsz, oneP hZ, rfl⟩)); intro W2 hs_W2 hb_W2 Z_0; have P_2 := P_s.below hb_W2; have Y_2 := range_below Y_s hb_W2; have B_2 := B_s.below hb_W2; rw [hZ.out] at Z_0; have Z_2 := bytes_of_range Z_0 hs_W2 hlz.out hbz.out; have k2_0 := cell_keep hb_W2 ks_0; have k2_1 := cell_keep hb_W2 ks_1; have k2_2 := cell_keep hb_W2 ks_2; have k2_3 := cell_keep hb_W2 ks_3; have k2_4 := cell_keep hb_W2 ks_4) | (go_at_call 25; (with_reducible refine (refKind_as g p c t l _ hK).mono ?_); rintro e W ⟨rfl, hb_W⟩; have P_w := P_2.below hb_W; have Y_w := range_below Y_2 hb_W; have B_w := B_2.below hb_W; have Z_w := Z_2.below hb_W; have kw_0 := cell_keep hb_W k2_0; have kw_1 := cell_keep hb_W k2_1; have kw_2 := cell_keep hb_W k2_2; have kw_3 := cell_keep hb_W k2_3; have kw_4 := cell_keep hb_W k2_4))
  have hS2 : Hid (decide (ps = sealZ ps) = S) := by rw [← hS.out]; exact decide_eq_decide.2 eq_comm
  have B0 : Below w.heap.size w W := by (repeat' (first | (with_reducible exact Below.refl _ _) | (with_reducible assumption) | (with_reducible refine below_drewN ?_ _) | (with_reducible refine Below.drew ?_) | ((with_reducible refine Below.alloc ?_ ?_ _); (rotate_left; focus (first | omega | (simp; done) | (simp; omega)))) | ((with_reducible refine Below.setCell ?_ ?_ _); (rotate_left; focus (first | omega | (simp; done) | (simp; omega)))) | (with_reducible refine Below.grown ?_ (by assumption) (by first | omega | (simp; omega)) (by simp [Value.ownBlock]; try omega)) | (with_reducible refine below_then ?_ (Aft.below _)) | (with_reducible apply below_then; rotate_left; assumption)))
  have S0 : Below W.heap.size W W.drew := (Below.refl _ _).drew
  refine wp_region_lead (fun w' => Below W.heap.size W w') [4, 5, 21, 33, 34, 38, 41, 42] [0, 1, 2, 3, 4, 5, 6, 7, 8, 9, 10, 11, 12, 13, 14, 15, 16, 17, 18, 19, 20, 22, 23, 21, 24, 25, 26, 27, 28, 29, 30, 31, 32, 33, 34, 35, 36, 37, 39, 40, 38, 41, 42, 43, 44, 45] _ (by kernel_rfl) (by kernel_rfl) (by kernel_rfl) (by simp only [List.filterMap_cons, List.getElem?_cons_zero, List.getElem?_cons_succ, Option.map_some, List.filterMap_nil]; rfl) rfl rfl S0 ?_
  have g0 := fun g : Wits (fun w' => Below W.heap.size W w') => cell_keep (Wits.is g) kw_0
  have g1 := fun g : Wits (fun w' => Below W.heap.size W w') => cell_keep (Wits.is g) kw_1
  have g2 := fun g : Wits (fun w' => Below W.heap.size W w') => cell_keep (Wits.is g) kw_2
  have g3 := fun g : Wits (fun w' => Below W.heap.size W w') => cell_keep (Wits.is g) kw_3
  have g4 := fun g : Wits (fun w' => Below W.heap.size W w') => cell_keep (Wits.is g) kw_4
  refine lead_quiet_n 4 rfl S0 ?_
  intro _
  simp only [List.take_succ_cons, List.take_zero, List.drop_succ_cons, List.drop_zero, List.map_cons, List.map_nil]
  (repeat (go_big_quiet_step (fail)))
  (refine wpQuiet_nil ?_)
  refine lead_one rfl ?_ S0
  go_wp2_with (go_at_call 29; (refine (refBuild_out g p c t l nni _ (P_w.below S0) (fun h => nomatch h)).mono ?_); rintro e x1 ⟨a2, n2, c2, rfl, BR, hb_x1⟩)
  have S1 : Below W.heap.size W x1 := below_then S0 hb_x1
  refine ⟨rfl, S1, ?_⟩
  refine lead_one rfl ?_ S1
  go_wp2_with (go_at_call 19; (refine (same_eq (b := true) (B_w.below S1) BR (by simp)).mono ?_); rintro e x2 ⟨rfl, hb_x2⟩)
  have S2 : Below W.heap.size W x2 := below_then S1 hb_x2
  refine ⟨rfl, S2, ?_⟩
  cases R
  all_goals
    refine lead_quiet_n 14 rfl S2 ?_
    intro _
    simp only [List.take_succ_cons, List.take_zero, List.drop_succ_cons, List.drop_zero, List.map_cons, List.map_nil]
    (repeat (go_big_quiet_step (fail)))
    (refine wpQuiet_nil ?_)
    refine lead_quiet_n 3 rfl S2 ?_
    intro _
    simp only [List.take_succ_cons, List.take_zero, List.drop_succ_cons, List.drop_zero, List.map_cons, List.map_nil]
    (refine wpQuiet_load46X Y (by simp [Region.wanted, yielded]) ⟨_, rfl, hsy, fun w' hw' => (by obtain ⟨g, rfl⟩ := hw'; exact range_below Y_w (Wits.is g))⟩ ?_); (simp only [Act.put, List.setIfInBounds_toArray, List.set_cons_succ, List.set_cons_zero])
    (repeat (go_big_quiet_step (fail)))
    (refine wpQuiet_nil ?_)
    refine lead_one rfl ?_ S2
    go_wp2_with (go_at_call 30; (refine (emptyX_any Y g p c t l ps _ hY hlp.out hK4.out).mono ?_); rintro e x3 ⟨rfl, hb_x3⟩)
    have S3 : Below W.heap.size W x3 := below_then S2 hb_x3
    refine ⟨rfl, S3, ?_⟩
    clear hK4 hE0 hE1
    cases E2
    all_goals cases E3
    all_goals
      refine lead_quiet_n 9 rfl S3 ?_
      intro _
      simp only [List.take_succ_cons, List.take_zero, List.drop_succ_cons, List.drop_zero, List.map_cons, List.map_nil]
      (repeat (go_big_quiet_step (fail)))
      (refine wpQuiet_nil ?_)
      refine lead_one rfl ?_ S3
      go_wp2_with (go_at_call 31; (refine (refSeal_any _ (P_w.below S3) (fun h => nomatch h)).mono ?_); rintro e x4 ⟨a4, c4, rfl, R4, n4, hb_x4⟩)
      have S4 : Below W.heap.size W x4 := below_then S3 hb_x4
      refine ⟨rfl, S4, ?_⟩
      refine lead_one rfl ?_ S4
      go_wp2_with (go_at_call 19; (refine (same_eq (b := true) (Z_w.below S4) R4 (by simp)).mono ?_); rintro e x5 ⟨rfl, hb_x5⟩)
      have S5 : Below W.heap.size W x5 := below_then S4 hb_x5
      refine ⟨rfl, S5, ?_⟩
      refine lead_quiet_n 5 rfl S5 ?_
      intro _
      simp only [List.take_succ_cons, List.take_zero, List.drop_succ_cons, List.drop_zero, List.map_cons, List.map_nil]
      (repeat (go_big_quiet_step (fail)))
      (refine wpQuiet_load48X X (by simp [Region.wanted, yielded]) ⟨_, _, rfl, hsp, fun w' hw' => (by obtain ⟨g, rfl⟩ := hw'; exact range_of (BytesAt.below P_w (Wits.is g)) hX)⟩ ?_); (simp only [Act.put, List.setIfInBounds_toArray, List.set_cons_succ, List.set_cons_zero])
      (repeat (go_big_quiet_step (fail)))
      (refine wpQuiet_nil ?_)
      refine lead_one rfl ?_ S5
      go_wp2_with (go_at_call 32; (refine (sealedX_any X ps _ hX hlp.out hbp.out hS.out).mono ?_); rintro e x6 ⟨rfl, hb_x6⟩)
      have S6 : Below W.heap.size W x6 := below_then S5 hb_x6
      refine ⟨rfl, S6, ?_⟩
      refine lead_one rfl ?_ S6
      go_wp2_with (go_at_call 31; (refine (refSeal_any _ (P_w.below S6) (fun h => nomatch h)).mono ?_); rintro e x7 ⟨a7, c7, rfl, R7, n7, hb_x7⟩)
      have S7 : Below W.heap.size W x7 := below_then S6 hb_x7
      refine ⟨rfl, S7, ?_⟩
      refine lead_one rfl ?_ S7
      go_wp2_with (go_at_call 19; (refine (same_eq (b := S) (P_w.below S7) R7 hS2.out).mono ?_); rintro e x8 ⟨rfl, hb_x8⟩)
      have S8 : Below W.heap.size W x8 := below_then S7 hb_x8
      refine ⟨rfl, S8, ?_⟩
      refine lead_quiet_n 3 rfl S8 ?_
      intro _
      simp only [List.take_succ_cons, List.take_zero, List.drop_succ_cons, List.drop_zero, List.map_cons, List.map_nil]
      (repeat (go_big_quiet_step (fail)))
      (refine wpQuiet_nil ?_)
      refine lead_nil ?_
      go_wp2
      go_ret
      exact ⟨rfl, B0.trans (S8.mono B0.size)⟩
namespace cellBuilds
theorem cellBuilds_any (g0 p0 c0 t0 l0 : Int) (ps1 : List Int) (b2 : Bool) (w : World) (_ : -9223372036854775808 ≤ g0) (_ : g0 ≤ 9223372036854775807) (_ : -9223372036854775808 ≤ p0) (_ : p0 ≤ 9223372036854775807) (_ : -9223372036854775808 ≤ c0) (_ : c0 ≤ 9223372036854775807) (_ : -9223372036854775808 ≤ t0) (_ : t0 ≤ 9223372036854775807) (_ : -9223372036854775808 ≤ l0) (_ : l0 ≤ 9223372036854775807) (hl1 : ps1.length = 48) (hb1 : allB ps1) :
    Calls Try.prog 9 #[.agg #[.int .i64 g0, .int .i64 p0, .int .i64 c0, .int .i64 t0, .int .i64 l0], .agg (u8s ps1).toArray, .bool b2] w fun e w' => e = .returned (.bool true) ∧ Below w.heap.size w w' := by
  refine lawBuilds_walk g0 p0 c0 t0 l0 ps1 b2 _ w rfl hl1 hb1 _ rfl _ _ rfl rfl _ rfl ?_ ?_ (kindZ p0 c0 t0 l0 == 2) (kindZ p0 c0 t0 l0 == 3) rfl rfl ?_
  · cases rightH b2 g0 p0 c0 t0 l0 <;> rfl
  · cases rightH b2 g0 p0 c0 t0 l0 <;> rfl
  · show decide _ = _
    rw [Bool.eq_iff_iff]
    simp
end cellBuilds
end Go.Proofs.Ytdlghiekcgplaaa
