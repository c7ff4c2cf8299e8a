/- The reference's Unpack of layer 13. -/
import Derived.Test.YtnjjejhniekdcaaRmRefP
import Derived.Test.YtnjjejhniekdcaaRmL3
namespace Go.Proofs.Ytnjjejhniekdcaa
set_option linter.unusedVariables false
set_option linter.unusedSimpArgs false
open Go.RowKit
set_option maxRecDepth 100000
set_option maxHeartbeats 4000000
theorem refNum2_at {w : World} {b : Nat} {c : Nat} {zs : List Int} (h : BytesAt w (some ⟨b, 0, none⟩) 48 zs) (k : Nat) (hk : k + 2 ≤ 48) (hk0 : 0 < k) :
    Calls Try.prog 34 #[.slice (some ⟨b, k, none⟩) 2 c] w fun e w' => e = .returned (.int .i64 (num2 zs k)) ∧ w = w' := by
  have h1 := slice_at (n := 2) h k hk hk0
  have hl := h.length
  have e : (zs.drop k).take 2 = [zs[k]?.getD 0, zs[k + 1]?.getD 0] := by
    rw [List.drop_eq_getElem_cons (by omega), List.drop_eq_getElem_cons (by omega), List.getElem?_eq_getElem (by omega), List.getElem?_eq_getElem (by omega)]
    rfl
  rw [e] at h1
  exact refNum2 h1
theorem refNum4_at {w : World} {b : Nat} {c : Nat} {zs : List Int} (h : BytesAt w (some ⟨b, 0, none⟩) 48 zs) (k : Nat) (hk : k + 4 ≤ 48) (hk0 : 0 < k) :
    Calls Try.prog 34 #[.slice (some ⟨b, k, none⟩) 4 c] w fun e w' => e = .returned (.int .i64 (num4 zs k)) ∧ w = w' := by
  have h1 := slice_at (n := 4) h k hk hk0
  have hl := h.length
  have e : (zs.drop k).take 4 = [zs[k]?.getD 0, zs[k + 1]?.getD 0, zs[k + 2]?.getD 0, zs[k + 3]?.getD 0] := by
    rw [List.drop_eq_getElem_cons (by omega), List.drop_eq_getElem_cons (by omega), List.drop_eq_getElem_cons (by omega), List.drop_eq_getElem_cons (by omega), List.getElem?_eq_getElem (by omega), List.getElem?_eq_getElem (by omega), List.getElem?_eq_getElem (by omega), List.getElem?_eq_getElem (by omega)]
    rfl
  rw [e] at h1
  exact refNum4 h1
section
variable {ops : Array Oper} {rest : List Oper} {a : Act} {w : World} {x y : Operand} {ty : TypeId} {pos : String} {after : Array Edge} {Q : Exit → Act → World → Prop}
theorem wpList_put25 (b : Nat) (cs : List Value) (h1 : a.eval x = .pointer (some ⟨b, 0, none⟩) ∧ a.eval y = .agg cs.toArray ∧ cs.length = 10 ∧ cs.toArray.all (·.oneCell') = true ∧ w.there b 0 10)
    (h : wpList Try.prog ops Q rest (a.put none undef) (w.setCells b 0 cs)) : wpList Try.prog ops Q (⟨none, .store 25 x y, ty, pos, after, none⟩ :: rest) a w := by
  obtain ⟨hx, hy, hl, h1, ht⟩ := h1
  exact wpList_store_mid rfl 25 x y rfl b 0 cs.toArray hx hy (by simpa [hl] using ht) (by rw [siz25]; simp [hl]) h1 (by simpa using h)
theorem wpList_fill25T (cs : List Value) {C : Array Value} {E : TypeId} (h1 : a.eval x = .pointer (some ⟨w.heap.size, 0, none⟩) ∧ a.eval y = .agg cs.toArray ∧ cs.length = 10 ∧ cs.toArray.all (·.oneCell') = true ∧ C.size = 10)
    (h : ∀ W2 : World, w.heap.size < W2.heap.size → Below w.heap.size w W2 → W2.rangeAt w.heap.size 0 cs → W2.there w.heap.size 0 10 → wpList Try.prog ops Q rest (a.put none undef) W2) : wpList Try.prog ops Q (⟨none, .store 25 x y, ty, pos, after, none⟩ :: rest) a (w.alloc (.cells C E)) := by
  obtain ⟨hx, hy, hl, h1, hC⟩ := h1
  have hX : cs.toArray.size = 10 := by simpa using hl
  have hf := fill_new (w := w) (E := E) hC hX rfl
  simp only [List.toList_toArray] at hf
  refine wpList_store_mid rfl 25 x y rfl _ 0 cs.toArray hx hy (by rw [hX]; exact there_new rfl hC) (by rw [siz25, hX]) h1 ?_
  exact h _ hf.1 hf.2.1 hf.2.2 (World.there_setCells (there_new rfl hC) _ _ _)
end
theorem load25_same {w : World} {b : Nat} {cs : List Value} (ht : w.there b 0 10) (hl : cs.length = 10) : (loadVar 25 ⟨b, 0, none⟩).run Try.prog (w.setCells b 0 cs) = .ok (.agg cs.toArray) (w.setCells b 0 cs) :=
  load25 (World.rangeAt_setCells_same _ _ _ _ (by rw [hl]; exact ht)) hl
theorem rm_put5 {w : World} {b : Nat} {bk nr ci ni ra : Bool} {er cc mc ql sn : Int} (h : w.rangeAt b 0 (rmV bk nr ci ni ra 0 0 0 0 0)) :
    (((((w.setCell ⟨b, 5, none⟩ (.int .u16 er)).setCell ⟨b, 6, none⟩ (.int .u16 cc)).setCell ⟨b, 7, none⟩ (.int .u16 mc)).setCell ⟨b, 8, none⟩ (.int .u32 ql)).setCell ⟨b, 9, none⟩ (.int .u32 sn)).rangeAt b 0 (rmV bk nr ci ni ra er cc mc ql sn) := by
  have g := rm_of_range h
  refine rm_range ⟨?_, ?_, ?_, ?_, ?_, ?_, ?_, ?_, ?_, ?_⟩
  · exact cell_off (by omega) (cell_off (by omega) (cell_off (by omega) (cell_off (by omega) (cell_off (by omega) g.c0))))
  · exact cell_off (by omega) (cell_off (by omega) (cell_off (by omega) (cell_off (by omega) (cell_off (by omega) g.c1))))
  · exact cell_off (by omega) (cell_off (by omega) (cell_off (by omega) (cell_off (by omega) (cell_off (by omega) g.c2))))
  · exact cell_off (by omega) (cell_off (by omega) (cell_off (by omega) (cell_off (by omega) (cell_off (by omega) g.c3))))
  · exact cell_off (by omega) (cell_off (by omega) (cell_off (by omega) (cell_off (by omega) (cell_off (by omega) g.c4))))
  · exact cell_off (by omega) (cell_off (by omega) (cell_off (by omega) (cell_off (by omega) (cell_set g.c5))))
  · exact cell_off (by omega) (cell_off (by omega) (cell_off (by omega) (cell_set (cell_off (by omega) g.c6))))
  · exact cell_off (by omega) (cell_off (by omega) (cell_set (cell_off (by omega) (cell_off (by omega) g.c7))))
  · exact cell_off (by omega) (cell_set (cell_off (by omega) (cell_off (by omega) (cell_off (by omega) g.c8))))
  · exact cell_set (cell_off (by omega) (cell_off (by omega) (cell_off (by omega) (cell_off (by omega) g.c9))))
theorem refUnpack_sum (zs : List Int) (b : Nat) (w : World) (HZ : BytesAt w (some ⟨b, 0, none⟩) 48 zs) (hS : decide (sealZ zs = zs) = false) :
    Calls Try.prog 13 #[.slice (some ⟨b, 0, none⟩) 48 48] w fun e w' => e = .returned (.tuple #[.agg rm0.toArray, .int .i64 4]) ∧ Below w.heap.size w w' := by
  have HS := Lib.hid hS
  clear hS
  go_enter Try.func13, Try.ntmps13
  go_wp2_with (first | (go_at_call 31; (refine (refSeal_any _ (HZ.below ((Below.refl _ _).alloc (Nat.le_refl _) _)) (fun h => nomatch h)).mono ?_); rintro e x1 ⟨a1, c1, rfl, A_1, n_1, hb_x1⟩; have P_1 := (HZ.below ((Below.refl _ _).alloc (Nat.le_refl _) (.cells #[.bool false, .bool false, .bool false, .bool false, .bool false, .int .u16 0, .int .u16 0, .int .u16 0, .int .u32 0, .int .u32 0] 25))).below hb_x1; have t_1 : x1.there w.heap.size 0 10 := (there_below (there_new rfl rfl) hb_x1); have B_1 : Below w.heap.size w x1 := (by (repeat' (first | (with_reducible exact Below.refl _ _) | (with_reducible assumption) | (with_reducible refine below_drewN ?_ _) | (with_reducible refine Below.drew ?_) | ((with_reducible refine Below.alloc ?_ ?_ _); (rotate_left; focus (first | omega | (simp; done) | (simp; omega)))) | ((with_reducible refine Below.setCell ?_ ?_ _); (rotate_left; focus (first | omega | (simp; done) | (simp; omega)))) | (with_reducible refine Below.grown ?_ (by assumption) (by first | omega | (simp; omega)) (by simp [Value.ownBlock]; try omega)) | (with_reducible refine below_then ?_ (Aft.below _)) | (with_reducible apply below_then; rotate_left; assumption))))) | (go_at_call 14; (refine (same_eq (b := false) A_1 P_1 HS.out).mono ?_); rintro e x2 ⟨rfl, hb_x2⟩; have P_2 := P_1.below hb_x2; have t_2 := there_below t_1 hb_x2; have B_2 : Below w.heap.size w x2 := B_1.trans (hb_x2.mono B_1.size); have c0_2 := P_2.cellAt (k := 0) (by omega); (try rw [Nat.zero_add, HZ0.out] at c0_2); (try have c1_2 := P_2.cellAt (k := 1) (by omega)); (try rw [Nat.zero_add, hp.out] at c1_2)) | ((with_reducible refine wpList_put25 w.heap.size rm0 ?_ ?_); (focus (exact ⟨rfl, rfl, rfl, one_rm _ _ _ _ _ _ _ _ _ _, t_2⟩))))
  refine bodyPost_ret (results_ct rfl _ _ rfl (load25_same t_2 rfl)) rfl ⟨rfl, ?_⟩
  exact Below.setCells _ _ B_2 (Nat.le_refl _)
theorem refUnpack_kind (zs : List Int) (b : Nat) (w : World) (HZ : BytesAt w (some ⟨b, 0, none⟩) 48 zs) (hS : decide (sealZ zs = zs) = true) (hk : at0 zs 0 ≠ 1) :
    Calls Try.prog 13 #[.slice (some ⟨b, 0, none⟩) 48 48] w fun e w' => e = .returned (.tuple #[.agg rm0.toArray, .int .i64 12]) ∧ Below w.heap.size w w' := by
  have HS := Lib.hid hS
  clear hS
  obtain ⟨z, hz⟩ : ∃ z, zs[0]?.getD 0 = z := ⟨_, rfl⟩
  have hz1 : (z != 1) = true := by rw [← hz]; exact bne_iff_ne.2 hk
  have HZ0 := Lib.hid hz
  clear hk hz
  go_enter Try.func13, Try.ntmps13
  go_wp2_with (first | (go_at_call 31; (refine (refSeal_any _ (HZ.below ((Below.refl _ _).alloc (Nat.le_refl _) _)) (fun h => nomatch h)).mono ?_); rintro e x1 ⟨a1, c1, rfl, A_1, n_1, hb_x1⟩; have P_1 := (HZ.below ((Below.refl _ _).alloc (Nat.le_refl _) (.cells #[.bool false, .bool false, .bool false, .bool false, .bool false, .int .u16 0, .int .u16 0, .int .u16 0, .int .u32 0, .int .u32 0] 25))).below hb_x1; have t_1 : x1.there w.heap.size 0 10 := (there_below (there_new rfl rfl) hb_x1); have B_1 : Below w.heap.size w x1 := (by (repeat' (first | (with_reducible exact Below.refl _ _) | (with_reducible assumption) | (with_reducible refine below_drewN ?_ _) | (with_reducible refine Below.drew ?_) | ((with_reducible refine Below.alloc ?_ ?_ _); (rotate_left; focus (first | omega | (simp; done) | (simp; omega)))) | ((with_reducible refine Below.setCell ?_ ?_ _); (rotate_left; focus (first | omega | (simp; done) | (simp; omega)))) | (with_reducible refine Below.grown ?_ (by assumption) (by first | omega | (simp; omega)) (by simp [Value.ownBlock]; try omega)) | (with_reducible refine below_then ?_ (Aft.below _)) | (with_reducible apply below_then; rotate_left; assumption))))) | (go_at_call 14; (refine (same_eq (b := true) A_1 P_1 HS.out).mono ?_); rintro e x2 ⟨rfl, hb_x2⟩; have P_2 := P_1.below hb_x2; have t_2 := there_below t_1 hb_x2; have B_2 : Below w.heap.size w x2 := B_1.trans (hb_x2.mono B_1.size); have c0_2 := P_2.cellAt (k := 0) (by omega); (try rw [Nat.zero_add, HZ0.out] at c0_2); (try have c1_2 := P_2.cellAt (k := 1) (by omega)); (try rw [Nat.zero_add, hp.out] at c1_2)) | ((with_reducible refine wpList_put25 w.heap.size rm0 ?_ ?_); (focus (exact ⟨rfl, rfl, rfl, one_rm _ _ _ _ _ _ _ _ _ _, t_2⟩))))
  refine bodyPost_ret (results_ct rfl _ _ rfl (load25_same t_2 rfl)) rfl ⟨rfl, ?_⟩
  exact Below.setCells _ _ B_2 (Nat.le_refl _)
/-- the answer where the payload was sealed, and of the kind. -/
def UnQ (C R : Bool) (v : List Value) (e : Ending) : Prop := e = if C then (if R then .returned (.tuple #[.agg v.toArray, .int .i64 0]) else .returned (.tuple #[.agg rm0.toArray, .int .i64 11])) else .returned (.tuple #[.agg rm0.toArray, .int .i64 5])
theorem refUnpack_read (zs : List Int) (b : Nat) (w : World) (hbw : b < w.heap.size) (HZ : BytesAt w (some ⟨b, 0, none⟩) 48 zs) (HS : Hid (decide (sealZ zs = zs) = true)) (HZ0 : Hid (zs[0]?.getD 0 = 1)) (er cc mc ql sn : Int) (her : Hid (num2 zs 2 = er)) (hcc : Hid (num2 zs 4 = cc)) (hmc : Hid (num2 zs 6 = mc)) (hql : Hid (num4 zs 8 = ql)) (hsn : Hid (num4 zs 12 = sn)) (h : Hid (RmOk er cc mc ql sn)) (p : Int) (hp : Hid (zs[1]?.getD 0 = p)) (bk nr ci ni ra : Bool) (f0 : (p / 128 == 1) = bk) (f1 : (p / 64 % 2 == 1) = nr) (f2 : (p / 32 % 2 == 1) = ci) (f3 : (p / 16 % 2 == 1) = ni) (f4 : (p / 8 % 2 == 1) = ra) (z : Int) (hz : Hid (zs[46]?.getD 0 = z)) (d1 d2 : Bool) (g1 : (p % 8 == 0) = d1) (g2 : (z / 4 == 0) = d2) (R : Bool) (hR : Hid (rights er cc mc = R)) :
    Calls Try.prog 13 #[.slice (some ⟨b, 0, none⟩) 48 48] w fun e w' => UnQ (allF zs 30 && (d1 && d2)) R (rmV bk nr ci ni ra er cc mc ql sn) e ∧ Below w.heap.size w w' := by
  have pb : 0 ≤ p ∧ p < 256 := by rw [← hp.out]; exact HZ.byte 1
  have zb : 0 ≤ z ∧ z < 256 := by rw [← hz.out]; exact HZ.byte 46
  have e0 := h.out.e0
  have e1 := h.out.e1
  have c0 := h.out.c0
  have c1 := h.out.c1
  have m0 := h.out.m0
  have m1 := h.out.m1
  have q0 := h.out.q0
  have q1 := h.out.q1
  have s0 := h.out.s0
  have s1 := h.out.s1
  have hbd : ∀ w, (Instr.build 25 #[(0, .bool bk), (1, .bool nr), (2, .bool ci), (3, .bool ni), (4, .bool ra)]).run Try.prog w = .ok (.agg (rmV bk nr ci ni ra 0 0 0 0 0).toArray) w := fun w => run_build w _ _ _ (by kernel_rfl)
  obtain ⟨D, hD⟩ : ∃ D, (d1 && d2) = D := ⟨_, rfl⟩
  rw [hD]
  have HD := Lib.hid hD
  clear hD
  cases d1 <;> cases d2
  all_goals
    go_enter Try.func13, Try.ntmps13
    go_wp2_with (first | (go_at_call 31; (refine (refSeal_any _ (HZ.below ((Below.refl _ _).alloc (Nat.le_refl _) _)) (fun h => nomatch h)).mono ?_); rintro e x1 ⟨a1, c1, rfl, A_1, n_1, hb_x1⟩; have P_1 := (HZ.below ((Below.refl _ _).alloc (Nat.le_refl _) (.cells #[.bool false, .bool false, .bool false, .bool false, .bool false, .int .u16 0, .int .u16 0, .int .u16 0, .int .u32 0, .int .u32 0] 25))).below hb_x1; have t_1 : x1.there w.heap.size 0 10 := (there_below (there_new rfl rfl) hb_x1); have B_1 : Below w.heap.size w x1 := (by (repeat' (first | (with_reducible exact Below.refl _ _) | (with_reducible assumption) | (with_reducible refine below_drewN ?_ _) | (with_reducible refine Below.drew ?_) | ((with_reducible refine Below.alloc ?_ ?_ _); (rotate_left; focus (first | omega | (simp; done) | (simp; omega)))) | ((with_reducible refine Below.setCell ?_ ?_ _); (rotate_left; focus (first | omega | (simp; done) | (simp; omega)))) | (with_reducible refine Below.grown ?_ (by assumption) (by first | omega | (simp; omega)) (by simp [Value.ownBlock]; try omega)) | (with_reducible refine below_then ?_ (Aft.below _)) | (with_reducible apply below_then; rotate_left; assumption))))) | (go_at_call 14; (refine (same_eq (b := true) A_1 P_1 HS.out).mono ?_); rintro e x2 ⟨rfl, hb_x2⟩; have P_2 := P_1.below hb_x2; have t_2 := there_below t_1 hb_x2; have B_2 : Below w.heap.size w x2 := B_1.trans (hb_x2.mono B_1.size); have c0_2 := P_2.cellAt (k := 0) (by omega); (try rw [Nat.zero_add, HZ0.out] at c0_2); (try have c1_2 := P_2.cellAt (k := 1) (by omega)); (try rw [Nat.zero_add, hp.out] at c1_2)) | ((with_reducible refine wpList_fill25T (w := x2) (rmV bk nr ci ni ra 0 0 0 0 0) ?_ ?_); (focus (exact ⟨rfl, rfl, rfl, one_rm _ _ _ _ _ _ _ _ _ _, rfl⟩)); intro W hs_W hb_W R_W H_W; have P_W := P_2.below hb_W; have t_W := there_below t_2 hb_W; have r5 := (rm_of_range R_W).c5; have r6 := (rm_of_range R_W).c6; have r7 := (rm_of_range R_W).c7; have r8 := (rm_of_range R_W).c8; have r9 := (rm_of_range R_W).c9; have z5 := (H_W 5 (by decide)).2; have z6 := (H_W 6 (by decide)).2; have z7 := (H_W 7 (by decide)).2; have z8 := (H_W 8 (by decide)).2; have z9 := (H_W 9 (by decide)).2; (simp only [Nat.zero_add] at z5 z6 z7 z8 z9); have hx2 := B_2.size; have hne : ¬ b = x2.heap.size := (by omega); have hne2 : ¬ x2.heap.size = b := (by omega); have hbq : (∀ b' off, some (⟨b, 0, none⟩ : Addr) = some ⟨b', off, none⟩ → b' ≠ x2.heap.size) := (fun b' off e => (by injection e with e; injection e with e; omega)); have cz := P_W.cellAt (k := 46) (by omega); rw [Nat.zero_add, hz.out] at cz) | (go_at_call 34; (with_reducible refine (refNum2_at (zs := zs) (b := b) ?_ 2 (by omega) (by omega)).mono ?_); (focus ((repeat (first | (with_reducible exact P_W) | ((with_reducible refine BytesAt.setOther ?_ hbq)))))); rw [her.out]; rintro e w' ⟨rfl, rfl⟩) | (go_at_call 34; (with_reducible refine (refNum2_at (zs := zs) (b := b) ?_ 4 (by omega) (by omega)).mono ?_); (focus ((repeat (first | (with_reducible exact P_W) | ((with_reducible refine BytesAt.setOther ?_ hbq)))))); rw [hcc.out]; rintro e w' ⟨rfl, rfl⟩) | (go_at_call 34; (with_reducible refine (refNum2_at (zs := zs) (b := b) ?_ 6 (by omega) (by omega)).mono ?_); (focus ((repeat (first | (with_reducible exact P_W) | ((with_reducible refine BytesAt.setOther ?_ hbq)))))); rw [hmc.out]; rintro e w' ⟨rfl, rfl⟩) | (go_at_call 34; (with_reducible refine (refNum4_at (zs := zs) (b := b) ?_ 8 (by omega) (by omega)).mono ?_); (focus ((repeat (first | (with_reducible exact P_W) | ((with_reducible refine BytesAt.setOther ?_ hbq)))))); rw [hql.out]; rintro e w' ⟨rfl, rfl⟩) | (go_at_call 34; (with_reducible refine (refNum4_at (zs := zs) (b := b) ?_ 12 (by omega) (by omega)).mono ?_); (focus ((repeat (first | (with_reducible exact P_W) | ((with_reducible refine BytesAt.setOther ?_ hbq)))))); rw [hsn.out]; rintro e w' ⟨rfl, rfl⟩))
    have RV := rm_put5 (er := er) (cc := cc) (mc := mc) (ql := ql) (sn := sn) R_W
    have PV : BytesAt (((((W.setCell ⟨x2.heap.size, 5, none⟩ (.int .u16 er)).setCell ⟨x2.heap.size, 6, none⟩ (.int .u16 cc)).setCell ⟨x2.heap.size, 7, none⟩ (.int .u16 mc)).setCell ⟨x2.heap.size, 8, none⟩ (.int .u32 ql)).setCell ⟨x2.heap.size, 9, none⟩ (.int .u32 sn)) (some ⟨b, 0, none⟩) 48 zs := by (repeat (first | (with_reducible exact P_W) | ((with_reducible refine BytesAt.setOther ?_ hbq))))
    have tV := there_setCell (there_setCell (there_setCell (there_setCell (there_setCell t_W ⟨x2.heap.size, 5, none⟩ (.int .u16 er)) ⟨x2.heap.size, 6, none⟩ (.int .u16 cc)) ⟨x2.heap.size, 7, none⟩ (.int .u16 mc)) ⟨x2.heap.size, 8, none⟩ (.int .u32 ql)) ⟨x2.heap.size, 9, none⟩ (.int .u32 sn)
    have BW : Below w.heap.size w W := B_2.trans (hb_W.mono hx2)
    have BV : Below w.heap.size w (((((W.setCell ⟨x2.heap.size, 5, none⟩ (.int .u16 er)).setCell ⟨x2.heap.size, 6, none⟩ (.int .u16 cc)).setCell ⟨x2.heap.size, 7, none⟩ (.int .u16 mc)).setCell ⟨x2.heap.size, 8, none⟩ (.int .u32 ql)).setCell ⟨x2.heap.size, 9, none⟩ (.int .u32 sn)) :=
      ((((BW.setCell (p := ⟨x2.heap.size, 5, none⟩) hx2 _).setCell (p := ⟨x2.heap.size, 6, none⟩) hx2 _).setCell (p := ⟨x2.heap.size, 7, none⟩) hx2 _).setCell (p := ⟨x2.heap.size, 8, none⟩) hx2 _).setCell (p := ⟨x2.heap.size, 9, none⟩) hx2 _
    obtain ⟨V, hV⟩ : ∃ V, V = (((((W.setCell ⟨x2.heap.size, 5, none⟩ (.int .u16 er)).setCell ⟨x2.heap.size, 6, none⟩ (.int .u16 cc)).setCell ⟨x2.heap.size, 7, none⟩ (.int .u16 mc)).setCell ⟨x2.heap.size, 8, none⟩ (.int .u32 ql)).setCell ⟨x2.heap.size, 9, none⟩ (.int .u32 sn)) := ⟨_, rfl⟩
    rw [← hV] at RV PV tV BV ⊢
    clear hV R_W H_W r5 r6 r7 r8 r9 z5 z6 z7 z8 z9 cz P_W t_W BW hb_W hs_W c0_2 c1_2 P_2 t_2 B_2 hb_x2 P_1 t_1 B_1 hb_x1 A_1 f0 f1 f2 f3 f4 g1 g2 hbd hbq
    go_loop [6, 7] (fun s6 s7 => ∃ k : Nat, k ≤ 30 ∧ s7 = .int .i64 (16 + (k : Int)) ∧ s6 = .bool (D && allF zs k)) (fun s6 s7 => (46 - intOf s7).toNat)
    case atStart => exact ⟨0, by omega, rfl, by rw [← HD.out]; rfl⟩
    case round =>
      obtain ⟨k, hk, rfl, rfl⟩ := hrel
      obtain ⟨v, hv⟩ : ∃ v, allF zs k = v := ⟨_, rfl⟩
      have hsucc : allF zs (k + 1) = (v && (zs[16 + k]?.getD 0 == 106)) := by unfold allF; rw [hv]
      rw [hv]
      by_cases hlt : k < 30
      · have HSU := Lib.hid hsucc
        clear hsucc hv
        have ck := PV.cellAt (k := 16 + k) (by omega)
        rw [Nat.zero_add] at ck
        have hkb := PV.byte (16 + k)
        obtain ⟨y, hy⟩ : ∃ y, zs[16 + k]?.getD 0 = y := ⟨_, rfl⟩
        rw [hy] at ck hkb HSU
        clear hy
        obtain ⟨u, hu⟩ : ∃ u, (D && v) = u := ⟨_, rfl⟩
        rw [hu]
        have HU := Lib.hid hu
        clear hu
        cases u
        · go_wp2
          go_round
          case rel => exact ⟨k + 1, by omega, by go_num, by rw [HSU.out, ← Bool.and_assoc, HU.out]; rfl⟩
          case measure => simp [intOf]; omega
        · go_wp2
          go_round
          case rel => exact ⟨k + 1, by omega, by go_num, by rw [HSU.out, ← Bool.and_assoc, HU.out]; rfl⟩
          case measure => simp [intOf]; omega
      · obtain rfl : k = 30 := by omega
        clear hsucc
        obtain ⟨u, hu⟩ : ∃ u, (D && v) = u := ⟨_, rfl⟩
        rw [hu]
        have hF : (allF zs 30 && D) = u := by rw [hv, Bool.and_comm]; exact hu
        have HF := Lib.hid hF
        clear hF hu hv hlt
        cases u
        · go_wp2_with ((with_reducible refine wpList_put25 w.heap.size rm0 ?_ ?_); (focus (exact ⟨rfl, rfl, rfl, one_rm _ _ _ _ _ _ _ _ _ _, tV⟩)))
          refine bodyPost_ret (results_ct rfl _ _ rfl (load25_same tV rfl)) rfl ?_
          rw [HF.out]
          exact ⟨rfl, Below.setCells _ _ BV (Nat.le_refl _)⟩
        · cases R
          · go_wp2_with (first | ((with_reducible refine wpList_load25G (rmV bk nr ci ni ra er cc mc ql sn) ?_ ?_ ?_); (focus rfl); (focus (exact ⟨_, rfl, rfl, RV⟩))) | (go_at_call 11; (with_reducible refine (refPack_no bk nr ci ni ra er cc mc ql sn _ h.out hR.out).mono ?_); rintro e x3 ⟨rfl, hb_x3⟩; have t_3 := there_below tV hb_x3; have hnil := fun w => eq_nil27 none 0 0 w) | ((with_reducible refine wpList_put25 w.heap.size rm0 ?_ ?_); (focus (exact ⟨rfl, rfl, rfl, one_rm _ _ _ _ _ _ _ _ _ _, t_3⟩))))
            refine bodyPost_ret (results_ct rfl _ _ rfl (load25_same t_3 rfl)) rfl ?_
            rw [HF.out]
            exact ⟨rfl, Below.setCells _ _ (BV.trans (hb_x3.mono BV.size)) (Nat.le_refl _)⟩
          · go_wp2_with (first | (go_at_call 11; (with_reducible refine (refPack_yes bk nr ci ni ra er cc mc ql sn _ h.out hR.out).mono ?_); rintro e x3 ⟨a3, c3, rfl, A_3, n_3, hb_x3⟩; have t_3 := there_below tV hb_x3; have RV3 := range_below RV hb_x3; have hnil : (∀ w, (binOp .eql 32 (.slice a3 48 c3) (.slice none 0 0)).run Try.prog w = .ok (.bool false) w) := (fun w => by obtain ⟨b3, o3, e3, _⟩ := A_3.cells (by omega); rw [e3]; exact eq_nil27 _ 48 c3 w)) | ((with_reducible refine wpList_load25G (rmV bk nr ci ni ra er cc mc ql sn) ?_ ?_ ?_); (focus rfl); (focus (exact ⟨_, rfl, rfl, (by first | exact RV3 | exact RV)⟩))) | ((with_reducible refine wpList_put25 w.heap.size (rmV bk nr ci ni ra er cc mc ql sn) ?_ ?_); (focus (exact ⟨rfl, rfl, rfl, one_rm _ _ _ _ _ _ _ _ _ _, t_3⟩))))
            refine bodyPost_ret (results_ct rfl _ _ rfl (load25_same t_3 rfl)) rfl ?_
            rw [HF.out]
            exact ⟨rfl, Below.setCells _ _ (BV.trans (hb_x3.mono BV.size)) (Nat.le_refl _)⟩
end Go.Proofs.Ytnjjejhniekdcaa
