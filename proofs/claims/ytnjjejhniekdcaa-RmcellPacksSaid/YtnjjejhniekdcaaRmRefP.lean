/- The reference's Pack of layer 13. -/
import Derived.Test.YtnjjejhniekdcaaRmRef
namespace Go.Proofs.Ytnjjejhniekdcaa
set_option linter.unusedVariables false
set_option linter.unusedSimpArgs false
open Go.RowKit
set_option maxRecDepth 100000
set_option maxHeartbeats 4000000
theorem refPack_no (bk nr ci ni ra : Bool) (er cc mc ql sn : Int) (w : World) (h : RmOk er cc mc ql sn) (hr : rights er cc mc = false) :
    Calls Try.prog 11 #[.agg (rmV bk nr ci ni ra er cc mc ql sn).toArray] w fun e w' => e = .returned (.slice none 0 0) ∧ Below w.heap.size w w' := by
  obtain ⟨e0, e1, c0, c1, m0, m1, _, _, _, _⟩ := h
  unfold rights at hr
  obtain ⟨R1, h1⟩ : ∃ R1, rgtZ er = R1 := ⟨_, rfl⟩
  obtain ⟨R2, h2⟩ : ∃ R2, rgtZ cc = R2 := ⟨_, rfl⟩
  obtain ⟨R3, h3⟩ : ∃ R3, rgtZ mc = R3 := ⟨_, rfl⟩
  rw [h1, h2, h3] at hr
  have H1 := Lib.hid h1
  have H2 := Lib.hid h2
  have H3 := Lib.hid h3
  clear h1 h2 h3
  have hcase : R1 = false ∨ (R1 = true ∧ R2 = false) ∨ (R1 = true ∧ R2 = true ∧ R3 = false) := by
    cases R1 <;> cases R2 <;> cases R3 <;> simp at hr ⊢
  clear hr
  rcases hcase with rfl | ⟨rfl, rfl⟩ | ⟨rfl, rfl, rfl⟩
  all_goals
    go_enter Try.func11, Try.ntmps11
    go_wp2_with (first | (go_at_call 28; (with_reducible refine (refRight_int er _ e0 e1).mono ?_); rw [H1.out]; rintro e w' ⟨rfl, rfl⟩) | (go_at_call 28; (with_reducible refine (refRight_int cc _ c0 c1).mono ?_); rw [H2.out]; rintro e w' ⟨rfl, rfl⟩) | (go_at_call 28; (with_reducible refine (refRight_int mc _ m0 m1).mono ?_); rw [H3.out]; rintro e w' ⟨rfl, rfl⟩))
    go_ret
    exact ⟨rfl, by (repeat' (first | (with_reducible exact Below.refl _ _) | (with_reducible assumption) | (with_reducible refine below_drewN ?_ _) | (with_reducible refine Below.drew ?_) | ((with_reducible refine Below.alloc ?_ ?_ _); (rotate_left; focus (first | omega | (simp; done) | (simp; omega)))) | ((with_reducible refine Below.setCell ?_ ?_ _); (rotate_left; focus (first | omega | (simp; done) | (simp; omega)))) | (with_reducible refine Below.grown ?_ (by assumption) (by first | omega | (simp; omega)) (by simp [Value.ownBlock]; try omega)) | (with_reducible refine below_then ?_ (Aft.below _)) | (with_reducible apply below_then; rotate_left; assumption)))⟩
theorem RmAt.cellB {w w' : World} {b B : Nat} {bk nr ci ni ra : Bool} {er cc mc ql sn : Int} (h : RmAt w b bk nr ci ni ra er cc mc ql sn) (hb : Below B w w') (hl : b < B) : RmAt w' b bk nr ci ni ra er cc mc ql sn :=
  ⟨(hb.cell (p := ⟨b, 0, none⟩) hl).trans h.c0, (hb.cell (p := ⟨b, 1, none⟩) hl).trans h.c1, (hb.cell (p := ⟨b, 2, none⟩) hl).trans h.c2, (hb.cell (p := ⟨b, 3, none⟩) hl).trans h.c3, (hb.cell (p := ⟨b, 4, none⟩) hl).trans h.c4, (hb.cell (p := ⟨b, 5, none⟩) hl).trans h.c5, (hb.cell (p := ⟨b, 6, none⟩) hl).trans h.c6, (hb.cell (p := ⟨b, 7, none⟩) hl).trans h.c7, (hb.cell (p := ⟨b, 8, none⟩) hl).trans h.c8, (hb.cell (p := ⟨b, 9, none⟩) hl).trans h.c9⟩
def sliceLen : Value → Nat
  | .slice _ n _ => n
  | _ => 0
theorem refPack_yes (bk nr ci ni ra : Bool) (er cc mc ql sn : Int) (w : World) (h : RmOk er cc mc ql sn) (hr : rights er cc mc = true) :
    Calls Try.prog 11 #[.agg (rmV bk nr ci ni ra er cc mc ql sn).toArray] w fun e w' => ∃ a c, e = .returned (.slice a 48 c) ∧ BytesAt w' a 48 (sealZ (packZ bk nr ci ni ra er cc mc ql sn)) ∧ (a = none → c = 0) ∧ Below w.heap.size w w' := by
  obtain ⟨e0, e1, c0, c1, m0, m1, q0, q1, s0, s1⟩ := h
  unfold rights at hr
  have h1 : rgtZ er = true := by cases hh : rgtZ er <;> simp [hh] at hr ⊢
  have h2 : rgtZ cc = true := by cases hh : rgtZ cc <;> simp [hh] at hr ⊢
  have h3 : rgtZ mc = true := by cases hh : rgtZ mc <;> simp [hh] at hr ⊢
  have H1 := Lib.hid h1
  have H2 := Lib.hid h2
  have H3 := Lib.hid h3
  clear h1 h2 h3 hr
  obtain ⟨f1, hf1⟩ : ∃ f1, f1 = flg bk 128 := ⟨_, rfl⟩
  obtain ⟨f2, hf2⟩ : ∃ f2, f2 = flg nr 64 := ⟨_, rfl⟩
  obtain ⟨f3, hf3⟩ : ∃ f3, f3 = flg ci 32 := ⟨_, rfl⟩
  obtain ⟨f4, hf4⟩ : ∃ f4, f4 = flg ni 16 := ⟨_, rfl⟩
  obtain ⟨f5, hf5⟩ : ∃ f5, f5 = flg ra 8 := ⟨_, rfl⟩
  have hfz := flagZ_bd bk nr ci ni ra
  have bf1 : 0 ≤ f1 ∧ f1 ≤ 128 := by rw [hf1]; cases bk <;> decide
  have bf2 : 0 ≤ f2 ∧ f2 ≤ 64 := by rw [hf2]; cases nr <;> decide
  have bf3 : 0 ≤ f3 ∧ f3 ≤ 32 := by rw [hf3]; cases ci <;> decide
  have bf4 : 0 ≤ f4 ∧ f4 ≤ 16 := by rw [hf4]; cases ni <;> decide
  have bf5 : 0 ≤ f5 ∧ f5 ≤ 8 := by rw [hf5]; cases ra <;> decide
  obtain ⟨t2, ht2⟩ : ∃ t, t = f1 + f2 := ⟨_, rfl⟩
  obtain ⟨t3, ht3⟩ : ∃ t, t = t2 + f3 := ⟨_, rfl⟩
  obtain ⟨t4, ht4⟩ : ∃ t, t = t3 + f4 := ⟨_, rfl⟩
  obtain ⟨t5, ht5⟩ : ∃ t, t = t4 + f5 := ⟨_, rfl⟩
  have hfl : flagZ bk nr ci ni ra = t5 := by unfold flagZ; rw [← hf1, ← hf2, ← hf3, ← hf4, ← hf5, ht5, ht4, ht3, ht2]
  rw [hfl] at hfz
  have x2 : IntKind.i64.wrap (f1 + f2) = t2 := by rw [← ht2]; exact IntWalk.i64_in _ (by omega)
  have x3 : IntKind.i64.wrap (t2 + f3) = t3 := by rw [← ht3]; exact IntWalk.i64_in _ (by omega)
  have x4 : IntKind.i64.wrap (t3 + f4) = t4 := by rw [← ht4]; exact IntWalk.i64_in _ (by omega)
  have x5 : IntKind.i64.wrap (t4 + f5) = t5 := by rw [← ht5]; exact IntWalk.i64_in _ (by omega)
  have x6 : IntKind.u8.wrap t5 = t5 := by
    have e : IntKind.u8.wrap t5 = t5 % 256 := by simp [IntKind.wrap, IntKind.bits, IntKind.signed]
    rw [e]; omega
  have HF1 := Lib.hid hf1; have HF2 := Lib.hid hf2; have HF3 := Lib.hid hf3; have HF4 := Lib.hid hf4; have HF5 := Lib.hid hf5
  have HFL := Lib.hid hfl
  clear hf1 hf2 hf3 hf4 hf5 ht2 ht3 ht4 ht5 hfl bf1 bf2 bf3 bf4 bf5
  go_enter Try.func11, Try.ntmps11
  go_wp2_with (first | (go_at_call 28; (with_reducible refine (refRight_int er _ e0 e1).mono ?_); rw [H1.out]; rintro e w' ⟨rfl, rfl⟩) | (go_at_call 28; (with_reducible refine (refRight_int cc _ c0 c1).mono ?_); rw [H2.out]; rintro e w' ⟨rfl, rfl⟩) | (go_at_call 28; (with_reducible refine (refRight_int mc _ m0 m1).mono ?_); rw [H3.out]; rintro e w' ⟨rfl, rfl⟩))
  have RA := rmAt_at (w := w) (bk := bk) (nr := nr) (ci := ci) (ni := ni) (ra := ra) (er := er) (cc := cc) (mc := mc) (ql := ql) (sn := sn) (k := w.heap.size) (E := 25) rfl
  obtain ⟨W, hW⟩ : ∃ W, W = w.alloc (.cells #[.bool bk, .bool nr, .bool ci, .bool ni, .bool ra, .int .u16 er, .int .u16 cc, .int .u16 mc, .int .u32 ql, .int .u32 sn] 25) := ⟨_, rfl⟩
  have BW : Below w.heap.size w W := by rw [hW]; (repeat' (first | (with_reducible exact Below.refl _ _) | (with_reducible assumption) | (with_reducible refine below_drewN ?_ _) | (with_reducible refine Below.drew ?_) | ((with_reducible refine Below.alloc ?_ ?_ _); (rotate_left; focus (first | omega | (simp; done) | (simp; omega)))) | ((with_reducible refine Below.setCell ?_ ?_ _); (rotate_left; focus (first | omega | (simp; done) | (simp; omega)))) | (with_reducible refine Below.grown ?_ (by assumption) (by first | omega | (simp; omega)) (by simp [Value.ownBlock]; try omega)) | (with_reducible refine below_then ?_ (Aft.below _)) | (with_reducible apply below_then; rotate_left; assumption)))
  have hsW : W.heap.size = w.heap.size + 1 := by rw [hW]; simp
  rw [← hW] at RA ⊢
  have HSW := Lib.hid hsW
  clear hW hsW
  have S0 : Below W.heap.size W W.drew := (Below.refl _ _).drew
  refine wp_region_lead (fun w' => Below W.heap.size W w') [2, 5, 9, 13, 17, 20, 21] [0, 1, 3, 4, 7, 8, 11, 12, 15, 16, 2, 5, 6, 9, 10, 13, 14, 17, 18, 19, 20, 21] _ (by kernel_rfl) (by kernel_rfl) (by kernel_rfl) (by simp only [List.filterMap_cons, List.getElem?_cons_zero, List.getElem?_cons_succ, Option.map_some, List.filterMap_nil]; rfl) rfl rfl S0 ?_
  have g0 := fun g : Wits (fun w' => Below W.heap.size W w') => cell_keep (Wits.is g) RA.c0
  have g1 := fun g : Wits (fun w' => Below W.heap.size W w') => cell_keep (Wits.is g) RA.c1
  have g2 := fun g : Wits (fun w' => Below W.heap.size W w') => cell_keep (Wits.is g) RA.c2
  have g3 := fun g : Wits (fun w' => Below W.heap.size W w') => cell_keep (Wits.is g) RA.c3
  have g4 := fun g : Wits (fun w' => Below W.heap.size W w') => cell_keep (Wits.is g) RA.c4
  refine lead_quiet_n 10 rfl S0 ?_
  intro _
  (simp only [List.take_succ_cons, List.take_zero, List.drop_succ_cons, List.drop_zero, List.map_cons, List.map_nil])
  (repeat (go_big_quiet_step (fail)))
  (refine wpQuiet_nil ?_)
  clear g0 g1 g2 g3 g4
  refine lead_one rfl ?_ S0
  go_wp2_with (go_at_call 29; (with_reducible refine (refBit_any bk 128 _).mono ?_); rw [← HF1.out]; rintro e w' ⟨rfl, rfl⟩)
  refine ⟨rfl, S0, ?_⟩
  refine lead_one rfl ?_ S0
  go_wp2_with (go_at_call 29; (with_reducible refine (refBit_any nr 64 _).mono ?_); rw [← HF2.out]; rintro e w' ⟨rfl, rfl⟩)
  refine ⟨rfl, S0, ?_⟩
  refine lead_quiet_n 1 rfl S0 ?_
  intro _
  (simp only [List.take_succ_cons, List.take_zero, List.drop_succ_cons, List.drop_zero, List.map_cons, List.map_nil])
  (repeat (go_big_quiet_step (fail)))
  (refine wpQuiet_nil ?_)
  refine lead_one rfl ?_ S0
  go_wp2_with (go_at_call 29; (with_reducible refine (refBit_any ci 32 _).mono ?_); rw [← HF3.out]; rintro e w' ⟨rfl, rfl⟩)
  refine ⟨rfl, S0, ?_⟩
  refine lead_quiet_n 1 rfl S0 ?_
  intro _
  (simp only [List.take_succ_cons, List.take_zero, List.drop_succ_cons, List.drop_zero, List.map_cons, List.map_nil])
  (repeat (go_big_quiet_step (fail)))
  (refine wpQuiet_nil ?_)
  refine lead_one rfl ?_ S0
  go_wp2_with (go_at_call 29; (with_reducible refine (refBit_any ni 16 _).mono ?_); rw [← HF4.out]; rintro e w' ⟨rfl, rfl⟩)
  refine ⟨rfl, S0, ?_⟩
  refine lead_quiet_n 1 rfl S0 ?_
  intro _
  (simp only [List.take_succ_cons, List.take_zero, List.drop_succ_cons, List.drop_zero, List.map_cons, List.map_nil])
  (repeat (go_big_quiet_step (fail)))
  (refine wpQuiet_nil ?_)
  refine lead_one rfl ?_ S0
  go_wp2_with (go_at_call 29; (with_reducible refine (refBit_any ra 8 _).mono ?_); rw [← HF5.out]; rintro e w' ⟨rfl, rfl⟩)
  refine ⟨rfl, S0, ?_⟩
  refine lead_quiet_n 2 rfl S0 ?_
  intro _
  (simp only [List.take_succ_cons, List.take_zero, List.drop_succ_cons, List.drop_zero, List.map_cons, List.map_nil])
  (repeat (go_big_quiet_step (fail)))
  (refine wpQuiet_nil ?_)
  refine lead_one rfl ?_ S0
  go_wp2
  refine ⟨rfl, S0.alloc (by simp) _, ?_⟩
  refine lead_one rfl ?_ (S0.alloc (by simp) _)
  go_wp2
  refine ⟨rfl, S0.alloc (by simp) _, ?_⟩
  refine lead_nil ?_
  have hO0 := own_lit (w := W) (base := W.heap.size) (n := 2) (E := 5) [1, t5] rfl (Nat.le_refl _) (by intro z hz; simp at hz; unfold isB; rcases hz with rfl | rfl <;> omega) rfl (by omega)
  have hOX := hO0.below ((Below.refl _ _).drew)
  have BX : Below W.heap.size W ((W.alloc (.cells #[.int .u8 1, .int .u8 t5] 5)).drew) := ((Below.refl _ _).alloc (Nat.le_refl _) _).drew
  have hOX : OwnB ((W.alloc (.cells #[.int .u8 1, .int .u8 t5] 5)).drew) W.heap.size (.slice (some ⟨W.heap.size, 0, none⟩) 2 2) 2 [1, t5] := hOX
  obtain ⟨X, hX⟩ : ∃ X, X = (W.alloc (.cells #[.int .u8 1, .int .u8 t5] 5)).drew := ⟨_, rfl⟩
  rw [← hX] at hOX BX ⊢
  clear hX hO0 x2 x3 x4 x5 x6 S0
  have RX := RA.below BX
  have hsX := BX.size
  have hlw : w.heap.size < W.heap.size := RA.lt
  have hsXX : W.heap.size ≤ X.heap.size := hsX
  go_wp2
  have S0 : Below W.heap.size X X.drew := (Below.refl _ _).drew
  refine wp_region_lead (fun w' => Below W.heap.size X w') [4, 5, 9, 10, 14, 15, 16] [0, 1, 2, 3, 6, 7, 8, 11, 12, 13, 4, 5, 9, 10, 14, 15, 16] _ (by kernel_rfl) (by kernel_rfl) (by kernel_rfl) (by simp only [List.filterMap_cons, List.getElem?_cons_zero, List.getElem?_cons_succ, Option.map_some, List.filterMap_nil]; rfl) rfl rfl S0 ?_
  have g5 := fun g : Wits (fun w' => Below W.heap.size X w') => ((Wits.is g).cell (p := ⟨w.heap.size, 5, none⟩) hlw).trans RX.c5
  have g6 := fun g : Wits (fun w' => Below W.heap.size X w') => ((Wits.is g).cell (p := ⟨w.heap.size, 6, none⟩) hlw).trans RX.c6
  have g7 := fun g : Wits (fun w' => Below W.heap.size X w') => ((Wits.is g).cell (p := ⟨w.heap.size, 7, none⟩) hlw).trans RX.c7
  have y_er : IntKind.i64.wrap er = er := IntWalk.i64_in _ (by omega)
  have y_cc : IntKind.i64.wrap cc = cc := IntWalk.i64_in _ (by omega)
  have y_mc : IntKind.i64.wrap mc = mc := IntWalk.i64_in _ (by omega)
  refine lead_quiet_n 10 rfl S0 ?_
  intro _
  (simp only [List.take_succ_cons, List.take_zero, List.drop_succ_cons, List.drop_zero, List.map_cons, List.map_nil])
  (repeat (go_big_quiet_step (fail)))
  (refine wpQuiet_nil ?_)
  clear g5 g6 g7 y_er y_cc y_mc
  have hOXd := hOX.below ((Below.refl _ _).drew)
  refine lead_one rfl ?_ S0
  go_wp2_with (go_at_call 30; (with_reducible refine (refBytes2 er _ e0 (by omega)).mono ?_); rintro e pX0 ⟨dpX0, cpX0, rfl, ApX0, npX0, hb_pX0⟩)
  have SpX0 : Below W.heap.size X pX0 := S0.trans (hb_pX0.mono (Nat.le_trans hsXX S0.size))
  have OpX0 := hOXd.below hb_pX0
  refine ⟨rfl, SpX0, ?_⟩
  refine lead_one rfl ?_ SpX0
  go_wp2_with (at_builtin; refine wpList_append_bytes rfl _ _ rfl (v := (.slice (some ⟨W.heap.size, 0, none⟩) 2 2)) (n := 2) (xs := [1, t5]) (ad := dpX0) (m := 2) (c := cpX0) (ys := be2 er) (base := W.heap.size) rfl OpX0 rfl ApX0 npX0 (by omega) ?hbase ?_; (case hbase => exact Nat.le_trans hsXX SpX0.size); intro vqX0 qX0 OqX0 hb_qX0)
  have SqX0 : Below W.heap.size X qX0 := SpX0.trans hb_qX0
  refine ⟨rfl, SqX0, ?_⟩
  refine lead_one rfl ?_ SqX0
  go_wp2_with (go_at_call 30; (with_reducible refine (refBytes2 cc _ c0 (by omega)).mono ?_); rintro e pX1 ⟨dpX1, cpX1, rfl, ApX1, npX1, hb_pX1⟩)
  have SpX1 : Below W.heap.size X pX1 := SqX0.trans (hb_pX1.mono (Nat.le_trans hsXX SqX0.size))
  have OpX1 := OqX0.below hb_pX1
  refine ⟨rfl, SpX1, ?_⟩
  refine lead_one rfl ?_ SpX1
  go_wp2_with (at_builtin; refine wpList_append_bytes rfl _ _ rfl (v := vqX0) (n := 4) (xs := ([1, t5] ++ be2 er)) (ad := dpX1) (m := 2) (c := cpX1) (ys := be2 cc) (base := W.heap.size) rfl OpX1 rfl ApX1 npX1 (by omega) ?hbase ?_; (case hbase => exact Nat.le_trans hsXX SpX1.size); intro vqX1 qX1 OqX1 hb_qX1)
  have SqX1 : Below W.heap.size X qX1 := SpX1.trans hb_qX1
  refine ⟨rfl, SqX1, ?_⟩
  refine lead_one rfl ?_ SqX1
  go_wp2_with (go_at_call 30; (with_reducible refine (refBytes2 mc _ m0 (by omega)).mono ?_); rintro e pX2 ⟨dpX2, cpX2, rfl, ApX2, npX2, hb_pX2⟩)
  have SpX2 : Below W.heap.size X pX2 := SqX1.trans (hb_pX2.mono (Nat.le_trans hsXX SqX1.size))
  have OpX2 := OqX1.below hb_pX2
  refine ⟨rfl, SpX2, ?_⟩
  refine lead_one rfl ?_ SpX2
  go_wp2_with (at_builtin; refine wpList_append_bytes rfl _ _ rfl (v := vqX1) (n := 6) (xs := (([1, t5] ++ be2 er) ++ be2 cc)) (ad := dpX2) (m := 2) (c := cpX2) (ys := be2 mc) (base := W.heap.size) rfl OpX2 rfl ApX2 npX2 (by omega) ?hbase ?_; (case hbase => exact Nat.le_trans hsXX SpX2.size); intro vqX2 qX2 OqX2 hb_qX2)
  have SqX2 : Below W.heap.size X qX2 := SpX2.trans hb_qX2
  refine ⟨rfl, SqX2, ?_⟩
  refine lead_one rfl ?_ SqX2
  go_wp2
  refine ⟨rfl, SqX2, ?_⟩
  refine lead_nil ?_
  have BY : Below W.heap.size W qX2 := BX.trans (SqX2.mono (Nat.le_refl _))
  have RY := RX.cellB SqX2 hlw
  obtain ⟨Y, hY⟩ : ∃ Y, Y = qX2 := ⟨_, rfl⟩
  obtain ⟨vy, hvy⟩ : ∃ vy, vy = vqX2 := ⟨_, rfl⟩
  have hOY := OqX2
  rw [← hY] at BY RY hOY ⊢
  rw [← hvy] at hOY ⊢
  have hsXY : W.heap.size ≤ Y.heap.size := BY.size
  clear hY hvy RX SqX2 SpX2 SqX1 SpX1 SqX0 SpX0 S0 OqX2 OpX2 OqX1 OpX1 OqX0 OpX0 hOXd hOX ApX0 ApX1 ApX2 hb_pX0 hb_pX1 hb_pX2 hb_qX0 hb_qX1 hb_qX2 BX hsX hsXX
  go_wp2
  have S0 : Below W.heap.size Y Y.drew := (Below.refl _ _).drew
  refine wp_region_lead (fun w' => Below W.heap.size Y w') [4, 5, 9, 10, 11] [0, 1, 2, 3, 6, 7, 8, 4, 5, 9, 10, 11] _ (by kernel_rfl) (by kernel_rfl) (by kernel_rfl) (by simp only [List.filterMap_cons, List.getElem?_cons_zero, List.getElem?_cons_succ, Option.map_some, List.filterMap_nil]; rfl) rfl rfl S0 ?_
  have g8 := fun g : Wits (fun w' => Below W.heap.size Y w') => ((Wits.is g).cell (p := ⟨w.heap.size, 8, none⟩) hlw).trans RY.c8
  have g9 := fun g : Wits (fun w' => Below W.heap.size Y w') => ((Wits.is g).cell (p := ⟨w.heap.size, 9, none⟩) hlw).trans RY.c9
  have y_ql : IntKind.i64.wrap ql = ql := IntWalk.i64_in _ (by omega)
  have y_sn : IntKind.i64.wrap sn = sn := IntWalk.i64_in _ (by omega)
  refine lead_quiet_n 7 rfl S0 ?_
  intro _
  (simp only [List.take_succ_cons, List.take_zero, List.drop_succ_cons, List.drop_zero, List.map_cons, List.map_nil])
  (repeat (go_big_quiet_step (fail)))
  (refine wpQuiet_nil ?_)
  clear g8 g9 y_ql y_sn
  have hOYd := hOY.below ((Below.refl _ _).drew)
  refine lead_one rfl ?_ S0
  go_wp2_with (go_at_call 30; (with_reducible refine (refBytes4 ql _ q0 (by omega)).mono ?_); rintro e pY0 ⟨dpY0, cpY0, rfl, ApY0, npY0, hb_pY0⟩)
  have SpY0 : Below W.heap.size Y pY0 := S0.trans (hb_pY0.mono (Nat.le_trans hsXY S0.size))
  have OpY0 := hOYd.below hb_pY0
  refine ⟨rfl, SpY0, ?_⟩
  refine lead_one rfl ?_ SpY0
  go_wp2_with (at_builtin; refine wpList_append_bytes rfl _ _ rfl (v := vy) (n := 8) (xs := ([1, t5] ++ be2 er ++ be2 cc ++ be2 mc)) (ad := dpY0) (m := 4) (c := cpY0) (ys := be4 ql) (base := W.heap.size) rfl OpY0 rfl ApY0 npY0 (by omega) ?hbase ?_; (case hbase => exact Nat.le_trans hsXY SpY0.size); intro vqY0 qY0 OqY0 hb_qY0)
  have SqY0 : Below W.heap.size Y qY0 := SpY0.trans hb_qY0
  refine ⟨rfl, SqY0, ?_⟩
  refine lead_one rfl ?_ SqY0
  go_wp2_with (go_at_call 30; (with_reducible refine (refBytes4 sn _ s0 (by omega)).mono ?_); rintro e pY1 ⟨dpY1, cpY1, rfl, ApY1, npY1, hb_pY1⟩)
  have SpY1 : Below W.heap.size Y pY1 := SqY0.trans (hb_pY1.mono (Nat.le_trans hsXY SqY0.size))
  have OpY1 := OqY0.below hb_pY1
  refine ⟨rfl, SpY1, ?_⟩
  refine lead_one rfl ?_ SpY1
  go_wp2_with (at_builtin; refine wpList_append_bytes rfl _ _ rfl (v := vqY0) (n := 12) (xs := (([1, t5] ++ be2 er ++ be2 cc ++ be2 mc) ++ be4 ql)) (ad := dpY1) (m := 4) (c := cpY1) (ys := be4 sn) (base := W.heap.size) rfl OpY1 rfl ApY1 npY1 (by omega) ?hbase ?_; (case hbase => exact Nat.le_trans hsXY SpY1.size); intro vqY1 qY1 OqY1 hb_qY1)
  have SqY1 : Below W.heap.size Y qY1 := SpY1.trans hb_qY1
  refine ⟨rfl, SqY1, ?_⟩
  refine lead_one rfl ?_ SqY1
  go_wp2
  refine ⟨rfl, SqY1, ?_⟩
  refine lead_nil ?_
  have BZ : Below W.heap.size W qY1 := BY.trans (SqY1.mono (Nat.le_refl _))
  have hOZ := OqY1
  obtain ⟨ps, hps⟩ : ∃ ps, ps = ([1, t5] ++ be2 er ++ be2 cc ++ be2 mc ++ be4 ql ++ be4 sn) := ⟨_, rfl⟩
  rw [← hps] at hOZ
  have hpz : ps ++ List.replicate 30 106 ++ [0, 0] = packZ bk nr ci ni ra er cc mc ql sn := by
    rw [hps]; unfold packZ; rw [HFL.out]
  have HPZ := Lib.hid hpz
  clear hps hpz OqY1 SqY1 SpY1 SqY0 SpY0 S0 OpY1 OqY0 OpY0 hOYd hOY ApY0 ApY1 hb_pY0 hb_pY1 hb_qY0 hb_qY1 BY RY hsXY RA
  go_wp2
  go_loopw [3] (fun s3 wr => ∃ k : Nat, k ≤ 30 ∧ OwnB wr W.heap.size s3 (16 + k) (ps ++ List.replicate k 106) ∧ Below W.heap.size W wr) (fun s3 wr => 46 - sliceLen s3)
  case atStart => exact ⟨0, by omega, by simpa using hOZ, BZ⟩
  case round =>
    obtain ⟨k, hk, hO, hBw⟩ := hrel
    clear hOZ BZ
    obtain ⟨a, c, rfl, hc1, hc2, hA, hF, hN⟩ := hO.at (by omega)
    have hnn := own_none hO
    have hsz := hBw.size
    by_cases hlt : k < 30
    · have hA1 : BytesAt (wr.alloc (.cells #[.int .u8 106] 5)) (some ⟨wr.heap.size, 0, none⟩) 1 [106] := bytes_topU [106] rfl rfl (by decide) (by decide)
      have hO1 := hO.alloc (.cells #[.int .u8 106] 5)
      have hB1 := hBw.alloc hsz (.cells #[.int .u8 106] 5)
      go_wp2_with (at_builtin; refine wpList_append_bytes rfl _ _ rfl (v := .slice a (16 + k) c) (n := 16 + k) (xs := ps ++ List.replicate k 106) (ad := some ⟨wr.heap.size, 0, none⟩) (m := 1) (c := 1) (ys := [106]) (base := W.heap.size) rfl hO1 rfl hA1 ?hn ?hb ?hbase ?_; (case hn => (intro e; cases e)); (case hb => omega); (case hbase => (simp; omega)); intro v' w' hO' hb')
      have hlen : sliceLen v' = 16 + k + 1 := by
        obtain ⟨_, _, e, _⟩ := hO'.at (by omega)
        rw [e]; rfl
      have HL := Lib.hid hlen
      clear hlen
      go_roundw
      case rel =>
        refine ⟨k + 1, by omega, ?_, hB1.trans hb'⟩
        rw [List.replicate_succ', ← List.append_assoc]
        exact hO'
      case measure => rw [HL.out]; show 46 - (16 + k + 1) < 46 - (16 + k); omega
    · obtain rfl : k = 30 := by omega
      have hA1 : BytesAt (wr.alloc (.cells #[.int .u8 0, .int .u8 0] 5)) (some ⟨wr.heap.size, 0, none⟩) 2 [0, 0] := bytes_topU [0, 0] rfl rfl (by decide) (by decide)
      have hO1 := hO.alloc (.cells #[.int .u8 0, .int .u8 0] 5)
      have hB1 := hBw.alloc hsz (.cells #[.int .u8 0, .int .u8 0] 5)
      go_wp2_with (first | (at_builtin; refine wpList_append_bytes rfl _ _ rfl (v := .slice a (16 + 30) c) (n := 16 + 30) (xs := ps ++ List.replicate 30 106) (ad := some ⟨wr.heap.size, 0, none⟩) (m := 2) (c := 2) (ys := [0, 0]) (base := W.heap.size) rfl hO1 rfl hA1 ?hn ?hb ?hbase ?_; (case hn => (intro e; cases e)); (case hb => omega); (case hbase => (simp; omega)); intro v' w' hO' hb'; rw [HPZ.out] at hO'; obtain ⟨a2, c2, rfl, hd1, hd2, hA2, hF2, hN2⟩ := hO'.at (by omega); have hnn2 := own_none hO') | (go_at_call 31; (refine (refSeal_any _ hA2 hnn2).mono ?_); rintro e ws ⟨a3, c3, rfl, hA3, hn3, hb_ws⟩))
      go_ret
      have B8 : Below W.heap.size W w' := hB1.trans hb'
      have B9 : Below W.heap.size W ws := B8.trans (hb_ws.mono B8.size)
      exact ⟨a3, c3, rfl, hA3, hn3, BW.trans (B9.mono BW.size)⟩
end Go.Proofs.Ytnjjejhniekdcaa
