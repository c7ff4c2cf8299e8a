/- The walk of the law RmcellApart. -/
import Derived.Test.YtnjjejhniekdcaaRmQ
namespace Go.Proofs.Ytnjjejhniekdcaa
set_option linter.unusedVariables false
set_option linter.unusedSimpArgs false
open Go.RowKit
set_option maxRecDepth 100000
set_option maxHeartbeats 4000000
theorem und25 : ∃ d, Try.prog.underlying 25 = some d ∧ d.isRow = true := ⟨_, by simp [go_sem]; rfl, rfl⟩
theorem siz25 : (Try.prog.info? 25).map (·.size) = some 10 := by kernel_rfl
theorem load25 {w : World} {b : Nat} {cs : List Value} (h : w.rangeAt b 0 cs) (hl : cs.length = 10) : (loadVar 25 ⟨b, 0, none⟩).run Try.prog w = .ok (.agg cs.toArray) w := by
  obtain ⟨d, h1, h2⟩ := und25
  exact run_loadVar_mid w b 0 _ cs d h h1 h2 (by rw [siz25, hl])
section
variable {ops : Array Oper} {rest : List Oper} {a : Act} {w : World} {x : Operand} {dst : Option Nat} {ty : TypeId} {pos : String} {after : Array Edge}
theorem wpList_load25G {Q : Exit → Act → World → Prop} {gd : Option (Nat × Bool)} (cs : List Value) (hw : Region.wanted ⟨dst, .load 25 x, ty, pos, after, gd⟩ (yielded ops a.tmps) = true) (h1 : ∃ b, a.eval x = .pointer (some ⟨b, 0, none⟩) ∧ cs.length = 10 ∧ w.rangeAt b 0 cs)
    (h : wpList Try.prog ops Q rest (a.put dst (.agg cs.toArray)) w) : wpList Try.prog ops Q (⟨dst, .load 25 x, ty, pos, after, gd⟩ :: rest) a w := by
  refine wpList_unguard hw ?_
  obtain ⟨b, hx, hl, hc⟩ := h1
  refine wpList_run rfl ?_ h
  unfold execOp
  have hr := load25 hc hl
  simp only [hx, Instr.loadAt, Instr.sureAddr, Sem.run_bind, Sem.run_pure, Result.andThen_ok, hr]
theorem wpQuiet_load25X {C : World → Prop} {Q : Act → Prop} {gd : Option (Nat × Bool)} (cs : List Value) (hw : Region.wanted ⟨dst, .load 25 x, ty, pos, after, gd⟩ (yielded ops a.tmps) = true)
    (h1 : ∃ b, a.eval x = .pointer (some ⟨b, 0, none⟩) ∧ cs.length = 10 ∧ ∀ w, C w → w.rangeAt b 0 cs)
    (h : wpQuiet Try.prog ops C Q rest (a.put dst (.agg cs.toArray))) : wpQuiet Try.prog ops C Q (⟨dst, .load 25 x, ty, pos, after, gd⟩ :: rest) a := by
  obtain ⟨b, hx, hl, hc⟩ := h1
  refine wpQuiet_runG hw (fun w hC => ?_) h
  unfold execOp
  have hr := load25 (hc w hC) hl
  simp only [hx, Instr.loadAt, Instr.sureAddr, Sem.run_bind, Sem.run_pure, Result.andThen_ok, hr]
end
theorem lawApart_walk (bk nr ci ni ra bk' nr' ci' ni' ra' : Bool) (er cc mc ql sn er' cc' mc' ql' sn' : Int) (w : World) (h : RmOk er cc mc ql sn) (h' : RmOk er' cc' mc' ql' sn') (E E' : Int) (hE : Hid (E = if rights er cc mc = true then 0 else 1)) (hE' : Hid (E' = if rights er' cc' mc' = true then 0 else 1)) (B B' : Bool) (hB : (E != 0) = B) (hB' : (E' != 0) = B') (S T : Bool) (hS : Hid (decide (pkZ bk nr ci ni ra er cc mc ql sn = pkZ bk' nr' ci' ni' ra' er' cc' mc' ql' sn') = S)) (hT : Hid (T = true ↔ rmL bk nr ci ni ra er cc mc ql sn = rmL bk' nr' ci' ni' ra' er' cc' mc' ql' sn')) (hST : Hid (B = false → B' = false → S = T)) :
    Calls Try.prog 5 #[.agg (rmV bk nr ci ni ra er cc mc ql sn).toArray, .agg (rmV bk' nr' ci' ni' ra' er' cc' mc' ql' sn').toArray] w fun e w' => e = .returned (.bool true) ∧ Below w.heap.size w w' := by
  obtain ⟨zs, hzs⟩ : ∃ zs, Hid (zs = pkZ bk nr ci ni ra er cc mc ql sn) := ⟨_, rfl⟩
  obtain ⟨ys, hys⟩ : ∃ ys, Hid (ys = pkZ bk' nr' ci' ni' ra' er' cc' mc' ql' sn') := ⟨_, rfl⟩
  have hlz : Hid (zs.length = 48) := by rw [hzs.out]; exact pkZ_len ..
  have hly : Hid (ys.length = 48) := by rw [hys.out]; exact pkZ_len ..
  have hbz : Hid (allB zs) := by rw [hzs.out]; exact pkZ_B _ _ _ _ _ _ _ _ _ _
  have hby : Hid (allB ys) := by rw [hys.out]; exact pkZ_B _ _ _ _ _ _ _ _ _ _
  go_enter Try.func5, Try.ntmps5
  go_wp2_with (first | (go_at_call 9; refine (awake13 _).mono ?_; rintro e wa ⟨rfl, hb_wa⟩; have hs_wa := hb_wa.size; (try simp at hs_wa); have RA_a := RmAt.below ((rmAt_at (bk := bk) (nr := nr) (ci := ci) (ni := ni) (ra := ra) (er := er) (cc := cc) (mc := mc) (ql := ql) (sn := sn) rfl).below ((Below.refl _ _).alloc (Nat.le_refl _) _)) hb_wa; have RB_a := RmAt.below (rmAt_at (bk := bk') (nr := nr') (ci := ci') (ni := ni') (ra := ra') (er := er') (cc := cc') (mc := mc') (ql := ql') (sn := sn') (k := w.heap.size + 1) (by simp)) hb_wa) | ((with_reducible refine wpList_load25G (rmV bk nr ci ni ra er cc mc ql sn) ?_ ?_ ?_); (focus rfl); (focus (exact ⟨_, rfl, rfl, rm_range RA_a⟩))) | ((with_reducible refine wpList_load25G (rmV bk' nr' ci' ni' ra' er' cc' mc' ql' sn') ?_ ?_ ?_); (focus rfl); (focus (exact ⟨_, rfl, rfl, rm_range RB_1⟩))) | (go_at_call 10; (with_reducible refine (pack_all bk nr ci ni ra er cc mc ql sn _ h hE).mono ?_); rintro e wp ⟨X, rfl, hX, hb_wp⟩; rw [← hzs.out] at hX; have hsx := sizeP hX hlz.out; have hs_wp := hb_wp.size; have RA_p := RmAt.below RA_a hb_wp; have RB_p := RmAt.below RB_a hb_wp) | ((with_reducible refine wpList_fill48 (w := wp) X ?_ ?_); (focus (exact ⟨rfl, rfl, hsx, oneP hX, rfl⟩)); intro W1 hs_W1 hb_W1 X_1; have RA_1 := RA_p.below hb_W1; have RB_1 := RB_p.below hb_W1) | (go_at_call 10; (with_reducible refine (pack_all bk' nr' ci' ni' ra' er' cc' mc' ql' sn' _ h' hE').mono ?_); rintro e wq ⟨Y, rfl, hY, hb_wq⟩; rw [← hys.out] at hY; have hsy := sizeP hY hly.out; have hs_wq := hb_wq.size; have RA_q := RmAt.below RA_1 hb_wq; have RB_q := RmAt.below RB_1 hb_wq; have X_q := range_below X_1 hb_wq) | ((with_reducible refine wpList_fill48 (w := wq) Y ?_ ?_); (focus (exact ⟨rfl, rfl, hsy, oneP hY, rfl⟩)); intro W2 hs_W2 hb_W2 Y_2; have RA_2 := RA_q.below hb_W2; have RB_2 := RB_q.below hb_W2; have X_2 := range_below X_q hb_W2))
  have B0 : Below w.heap.size w W2 := by
    have h1 : Below w.heap.size w wa := by (repeat' (first | (with_reducible exact Below.refl _ _) | (with_reducible assumption) | (with_reducible refine below_drewN ?_ _) | (with_reducible refine Below.drew ?_) | ((with_reducible refine Below.alloc ?_ ?_ _); (rotate_left; focus (first | omega | (simp; done) | (simp; omega)))) | ((with_reducible refine Below.setCell ?_ ?_ _); (rotate_left; focus (first | omega | (simp; done) | (simp; omega)))) | (with_reducible refine Below.grown ?_ (by assumption) (by first | omega | (simp; omega)) (by simp [Value.ownBlock]; try omega)) | (with_reducible refine below_then ?_ (Aft.below _)) | (with_reducible apply below_then; rotate_left; assumption)))
    have h2 := h1.trans (hb_wp.mono h1.size)
    have h3 := h2.trans (hb_W1.mono h2.size)
    have h4 := h3.trans (hb_wq.mono h3.size)
    exact h4.trans (hb_W2.mono h4.size)
  have heS : ∀ w, (binOp .eql 26 (.agg X) (.agg Y)).run Try.prog w = .ok (.bool S) w := fun w => eq48X hX hY hlz.out hly.out hbz.out hby.out (by rw [hzs.out, hys.out]; exact hS.out) w
  have heT : ∀ w, (binOp .eql 25 (.agg (rmV bk nr ci ni ra er cc mc ql sn).toArray) (.agg (rmV bk' nr' ci' ni' ra' er' cc' mc' ql' sn').toArray)).run Try.prog w = .ok (.bool T) w := fun w => eq_rm (.inr rfl) h h' hT.out w
  have rA := rm_range RA_2
  have rB := rm_range RB_2
  clear RA_a RB_a RA_p RB_p RA_1 RB_1 RA_q RB_q RA_2 RB_2 X_1 X_q hb_wa hb_wp hb_W1 hb_wq hb_W2 hs_wa hs_wp hs_W1 hs_wq hs_W2
  cases B with
  | true =>
    refine wp_region_hold (by kernel_rfl) (by kernel_rfl) ?_
    (repeat (go_big_quiet_step (fail)))
    refine wpQuiet_nil ?_; intro _ hw'; obtain ⟨g, hw''⟩ := hw'; subst hw''; have hg := g.below
    go_wp2
    go_ret
    exact ⟨rfl, B0.trans (hg.mono B0.size)⟩
  | false =>
    cases B' with
    | true =>
      refine wp_region_hold (by kernel_rfl) (by kernel_rfl) ?_
      (repeat (go_big_quiet_step (fail)))
      refine wpQuiet_nil ?_; intro _ hw'; obtain ⟨g, hw''⟩ := hw'; subst hw''; have hg := g.below
      go_wp2
      go_ret
      exact ⟨rfl, B0.trans (hg.mono B0.size)⟩
    | false =>
      obtain rfl := hST.out rfl rfl
      refine wp_region_hold (by kernel_rfl) (by kernel_rfl) ?_
      (repeat (go_big_quiet_step (fail)))
      (refine wpQuiet_load48X X (by simp [Region.wanted, yielded]) ⟨_, _, rfl, hsx, fun w' hw' => (by obtain ⟨g, rfl⟩ := hw'; exact range_below X_2 (Aft.below g))⟩ ?_); (simp only [Act.put, List.setIfInBounds_toArray, List.set_cons_succ, List.set_cons_zero])
      (refine wpQuiet_load48X Y (by simp [Region.wanted, yielded]) ⟨_, _, rfl, hsy, fun w' hw' => (by obtain ⟨g, rfl⟩ := hw'; exact range_below Y_2 (Aft.below g))⟩ ?_); (simp only [Act.put, List.setIfInBounds_toArray, List.set_cons_succ, List.set_cons_zero])
      go_big_quiet_step (fail)
      (refine wpQuiet_load25X (rmV bk nr ci ni ra er cc mc ql sn) (by simp [Region.wanted, yielded]) ⟨_, rfl, rfl, fun w' hw' => (by obtain ⟨g, rfl⟩ := hw'; exact range_below rA (Aft.below g))⟩ ?_); (simp only [Act.put, List.setIfInBounds_toArray, List.set_cons_succ, List.set_cons_zero])
      (refine wpQuiet_load25X (rmV bk' nr' ci' ni' ra' er' cc' mc' ql' sn') (by simp [Region.wanted, yielded]) ⟨_, rfl, rfl, fun w' hw' => (by obtain ⟨g, rfl⟩ := hw'; exact range_below rB (Aft.below g))⟩ ?_); (simp only [Act.put, List.setIfInBounds_toArray, List.set_cons_succ, List.set_cons_zero])
      (repeat (go_big_quiet_step (fail)))
      refine wpQuiet_nil ?_; intro _ hw'; obtain ⟨g, hw''⟩ := hw'; subst hw''; have hg := g.below
      go_wp2
      go_ret
      exact ⟨rfl, B0.trans (hg.mono B0.size)⟩
namespace rmcellApart
theorem rmcellApart_any (bk0 nr0 ci0 ni0 ra0 : Bool) (er0 cc0 mc0 ql0 sn0 : Int) (bk1 nr1 ci1 ni1 ra1 : Bool) (er1 cc1 mc1 ql1 sn1 : Int) (w : World) (z1 : 0 ≤ er0) (z2 : er0 < 65536) (z3 : 0 ≤ cc0) (z4 : cc0 < 65536) (z5 : 0 ≤ mc0) (z6 : mc0 < 65536) (z7 : 0 ≤ ql0) (z8 : ql0 < 4294967296) (z9 : 0 ≤ sn0) (z10 : sn0 < 4294967296) (z11 : 0 ≤ er1) (z12 : er1 < 65536) (z13 : 0 ≤ cc1) (z14 : cc1 < 65536) (z15 : 0 ≤ mc1) (z16 : mc1 < 65536) (z17 : 0 ≤ ql1) (z18 : ql1 < 4294967296) (z19 : 0 ≤ sn1) (z20 : sn1 < 4294967296) :
    Calls Try.prog 5 #[.agg #[.bool bk0, .bool nr0, .bool ci0, .bool ni0, .bool ra0, .int .u16 er0, .int .u16 cc0, .int .u16 mc0, .int .u32 ql0, .int .u32 sn0], .agg #[.bool bk1, .bool nr1, .bool ci1, .bool ni1, .bool ra1, .int .u16 er1, .int .u16 cc1, .int .u16 mc1, .int .u32 ql1, .int .u32 sn1]] w fun e w' => e = .returned (.bool true) ∧ Below w.heap.size w w' := by
  have h : RmOk er0 cc0 mc0 ql0 sn0 := ⟨z1, z2, z3, z4, z5, z6, z7, z8, z9, z10⟩
  have h' : RmOk er1 cc1 mc1 ql1 sn1 := ⟨z11, z12, z13, z14, z15, z16, z17, z18, z19, z20⟩
  obtain ⟨T, hT⟩ : ∃ T : Bool, (T = true ↔ rmL bk0 nr0 ci0 ni0 ra0 er0 cc0 mc0 ql0 sn0 = rmL bk1 nr1 ci1 ni1 ra1 er1 cc1 mc1 ql1 sn1) := by classical exact ⟨decide _, decide_eq_true_iff⟩
  obtain ⟨E, hE⟩ : ∃ E : Int, E = if rights er0 cc0 mc0 = true then 0 else 1 := ⟨_, rfl⟩
  obtain ⟨E', hE'⟩ : ∃ E' : Int, E' = if rights er1 cc1 mc1 = true then 0 else 1 := ⟨_, rfl⟩
  obtain ⟨S, hS⟩ : ∃ S : Bool, decide (pkZ bk0 nr0 ci0 ni0 ra0 er0 cc0 mc0 ql0 sn0 = pkZ bk1 nr1 ci1 ni1 ra1 er1 cc1 mc1 ql1 sn1) = S := ⟨_, rfl⟩
  refine lawApart_walk bk0 nr0 ci0 ni0 ra0 bk1 nr1 ci1 ni1 ra1 er0 cc0 mc0 ql0 sn0 er1 cc1 mc1 ql1 sn1 w h h' E E' (Lib.hid hE) (Lib.hid hE') _ _ rfl rfl S T (Lib.hid hS) (Lib.hid hT) (Lib.hid fun a b => ?_)
  have hr : rights er0 cc0 mc0 = true := by
    cases hr : rights er0 cc0 mc0 with
    | true => rfl
    | false => rw [hE, hr] at a; exact absurd a (by decide)
  have hr' : rights er1 cc1 mc1 = true := by
    cases hr' : rights er1 cc1 mc1 with
    | true => rfl
    | false => rw [hE', hr'] at b; exact absurd b (by decide)
  rw [← hS, Bool.eq_iff_iff, decide_eq_true_eq, pack_inj h h' hr hr', hT]
end rmcellApart
end Go.Proofs.Ytnjjejhniekdcaa
