/- The walk of the law RmcellMarks. -/
import Derived.Test.YtnjjejhniekdcaaRmL1
import Derived.Test.YtnjjejhniekdcaaRmN
namespace Go.Proofs.Ytnjjejhniekdcaa
set_option linter.unusedVariables false
set_option linter.unusedSimpArgs false
open Go.RowKit
set_option maxRecDepth 100000
set_option maxHeartbeats 4000000
theorem refMark_any (bk nr ci ni ra : Bool) (er cc mc ql sn x : Int) (a b : Bool) (w : World) (x0 : 0 ≤ x) (x1 : x < 65536) (er' : Int) (he : er' = if rgtZ x then min er x else er) :
    Calls Try.prog 22 #[.agg (rmV bk nr ci ni ra er cc mc ql sn).toArray, .int .u16 x, .bool a, .bool b] w fun e w' => e = .returned (.agg (rmV bk nr (ci || a) (ni || b) ra er' cc mc ql sn).toArray) ∧ Below w.heap.size w w' := by
  obtain ⟨r, hr⟩ : ∃ r, rgtZ x = r := ⟨_, rfl⟩
  rw [hr] at he
  have HR := Lib.hid hr
  clear hr
  cases r with
  | true =>
    rw [if_pos rfl] at he
    by_cases hx : x < er
    · obtain rfl : er' = x := by omega
      clear he
      cases ci <;> cases ni
      all_goals
        go_enter Try.func22, Try.ntmps22
        go_wp2_with (go_at_call 28; (with_reducible refine (refRight_int _ _ x0 x1).mono ?_); rw [HR.out]; rintro e w' ⟨rfl, rfl⟩)
        refine bodyPost_ret (results_c1 rfl _ _ rfl (load25 (cs := rmV _ _ _ _ _ _ _ _ _ _) (fun j v hv => cell_top (by simp) (by simpa using hv)) rfl)) rfl ⟨rfl, by (repeat' (first | (with_reducible exact Below.refl _ _) | (with_reducible assumption) | (with_reducible refine below_drewN ?_ _) | (with_reducible refine Below.drew ?_) | ((with_reducible refine Below.alloc ?_ ?_ _); (rotate_left; focus (first | omega | (simp; done) | (simp; omega)))) | ((with_reducible refine Below.setCell ?_ ?_ _); (rotate_left; focus (first | omega | (simp; done) | (simp; omega)))) | (with_reducible refine Below.grown ?_ (by assumption) (by first | omega | (simp; omega)) (by simp [Value.ownBlock]; try omega)) | (with_reducible refine below_then ?_ (Aft.below _)) | (with_reducible apply below_then; rotate_left; assumption)))⟩
    · obtain rfl : er' = er := by omega
      clear he
      cases ci <;> cases ni
      all_goals
        go_enter Try.func22, Try.ntmps22
        go_wp2_with (go_at_call 28; (with_reducible refine (refRight_int _ _ x0 x1).mono ?_); rw [HR.out]; rintro e w' ⟨rfl, rfl⟩)
        refine bodyPost_ret (results_c1 rfl _ _ rfl (load25 (cs := rmV _ _ _ _ _ _ _ _ _ _) (fun j v hv => cell_top (by simp) (by simpa using hv)) rfl)) rfl ⟨rfl, by (repeat' (first | (with_reducible exact Below.refl _ _) | (with_reducible assumption) | (with_reducible refine below_drewN ?_ _) | (with_reducible refine Below.drew ?_) | ((with_reducible refine Below.alloc ?_ ?_ _); (rotate_left; focus (first | omega | (simp; done) | (simp; omega)))) | ((with_reducible refine Below.setCell ?_ ?_ _); (rotate_left; focus (first | omega | (simp; done) | (simp; omega)))) | (with_reducible refine Below.grown ?_ (by assumption) (by first | omega | (simp; omega)) (by simp [Value.ownBlock]; try omega)) | (with_reducible refine below_then ?_ (Aft.below _)) | (with_reducible apply below_then; rotate_left; assumption)))⟩
  | false =>
    rw [if_neg (by decide)] at he
    subst he
    cases ci <;> cases ni
    all_goals
      go_enter Try.func22, Try.ntmps22
      go_wp2_with (go_at_call 28; (with_reducible refine (refRight_int _ _ x0 x1).mono ?_); rw [HR.out]; rintro e w' ⟨rfl, rfl⟩)
      refine bodyPost_ret (results_c1 rfl _ _ rfl (load25 (cs := rmV _ _ _ _ _ _ _ _ _ _) (fun j v hv => cell_top (by simp) (by simpa using hv)) rfl)) rfl ⟨rfl, by (repeat' (first | (with_reducible exact Below.refl _ _) | (with_reducible assumption) | (with_reducible refine below_drewN ?_ _) | (with_reducible refine Below.drew ?_) | ((with_reducible refine Below.alloc ?_ ?_ _); (rotate_left; focus (first | omega | (simp; done) | (simp; omega)))) | ((with_reducible refine Below.setCell ?_ ?_ _); (rotate_left; focus (first | omega | (simp; done) | (simp; omega)))) | (with_reducible refine Below.grown ?_ (by assumption) (by first | omega | (simp; omega)) (by simp [Value.ownBlock]; try omega)) | (with_reducible refine below_then ?_ (Aft.below _)) | (with_reducible apply below_then; rotate_left; assumption)))⟩
section
variable {ops : Array Oper} {rest : List Oper} {a : Act} {w : World} {x y : Operand} {dst : Option Nat} {ty : TypeId} {pos : String} {after : Array Edge}
theorem wpList_fill25 {Q : Exit → Act → World → Prop} (cs : List Value) {C : Array Value} {E : TypeId} (h1 : a.eval x = .pointer (some ⟨w.heap.size, 0, none⟩) ∧ a.eval y = .agg cs.toArray ∧ cs.length = 10 ∧ cs.toArray.all (·.oneCell') = true ∧ C.size = 10)
    (h : ∀ W2 : World, w.heap.size < W2.heap.size → Below w.heap.size w W2 → W2.rangeAt w.heap.size 0 cs → wpList Try.prog ops Q rest (a.put none undef) W2) : wpList Try.prog ops Q (⟨none, .store 25 x y, ty, pos, after, none⟩ :: rest) a (w.alloc (.cells C E)) := by
  obtain ⟨hx, hy, hl, h1, hC⟩ := h1
  have hX : cs.toArray.size = 10 := by simpa using hl
  have hf := fill_new (w := w) (E := E) hC hX rfl
  simp only [List.toList_toArray] at hf
  refine wpList_store_mid rfl 25 x y rfl _ 0 cs.toArray hx hy (by rw [hX]; exact there_new rfl hC) (by rw [siz25, hX]) h1 ?_
  exact h _ hf.1 hf.2.1 hf.2.2
theorem wpQuiet_load31X {C : World → Prop} {Q : Act → Prop} {gd : Option (Nat × Bool)} (cs : List Value) (hw : Region.wanted ⟨dst, .load 31 x, ty, pos, after, gd⟩ (yielded ops a.tmps) = true)
    (h1 : ∃ b, a.eval x = .pointer (some ⟨b, 0, none⟩) ∧ cs.length = 10 ∧ ∀ w, C w → w.rangeAt b 0 cs)
    (h : wpQuiet Try.prog ops C Q rest (a.put dst (.agg cs.toArray))) : wpQuiet Try.prog ops C Q (⟨dst, .load 31 x, ty, pos, after, gd⟩ :: rest) a := by
  obtain ⟨b, hx, hl, hc⟩ := h1
  refine wpQuiet_runG hw (fun w hC => ?_) h
  unfold execOp
  have hr := load31 (hc w hC) hl
  simp only [hx, Instr.loadAt, Instr.sureAddr, Sem.run_bind, Sem.run_pure, Result.andThen_ok, hr]
end
theorem code_bd {n c : Int} (h : IsCode n c) : 0 ≤ c ∧ c ≤ 32767 := by
  rcases h with ⟨_, rfl⟩ | ⟨_, h2, h3, _, _⟩ <;> omega
theorem lawMarks_walk (bk nr ci ni ra : Bool) (er cc mc ql sn x now peak floor : Int) (a b : Bool) (w : World) (h : RmOk er cc mc ql sn) (x0 : 0 ≤ x) (x1 : x < 65536) (n0 : 0 ≤ now) (n1 : now < 65536) (p0 : 0 ≤ peak) (p1 : peak < 65536) (f0 : 0 ≤ floor) (f1 : floor < 65536) :
    Calls Try.prog 8 #[.agg (rmV bk nr ci ni ra er cc mc ql sn).toArray, .int .u16 x, .bool a, .bool b, .int .u16 now, .int .u16 peak, .int .u16 floor] w fun e w' => e = .returned (.bool true) ∧ Below w.heap.size w w' := by
  obtain ⟨er', he⟩ : ∃ er', Hid (er' = if rgtZ x then min er x else er) := ⟨_, rfl⟩
  have h' : RmOk er' cc mc ql sn := by
    have := he.out
    have g := h
    refine ⟨?_, ?_, g.c0, g.c1, g.m0, g.m1, g.q0, g.q1, g.s0, g.s1⟩
    · rw [this]; have := g.e0; split <;> omega
    · rw [this]; have := g.e1; split <;> omega
  obtain ⟨CI, hCI⟩ : ∃ CI, (ci || a) = CI := ⟨_, rfl⟩
  obtain ⟨NI, hNI⟩ : ∃ NI, (ni || b) = NI := ⟨_, rfl⟩
  obtain ⟨c, hc⟩ := code_ex (nextN now peak floor er' CI NI)
  have HC : Hid (IsCode (nextN now peak floor er' CI NI) c) := hc
  have cb := code_bd hc
  have hk : ∀ w, Calls Try.prog 17 #[.agg (rmV bk nr ci ni ra er cc mc ql sn).toArray, .int .u16 x, .bool a, .bool b] w fun e w' => e = .returned (.agg (rmV bk nr CI NI ra er' cc mc ql sn).toArray) ∧ Below w.heap.size w w' := fun w => by
    rw [← hCI, ← hNI]; exact mark_any bk nr ci ni ra er cc mc ql sn x a b w x0 x1 er' he.out
  have hk2 : ∀ w, Calls Try.prog 22 #[.agg (rmV bk nr ci ni ra er cc mc ql sn).toArray, .int .u16 x, .bool a, .bool b] w fun e w' => e = .returned (.agg (rmV bk nr CI NI ra er' cc mc ql sn).toArray) ∧ Below w.heap.size w w' := fun w => by
    rw [← hCI, ← hNI]; exact refMark_any bk nr ci ni ra er cc mc ql sn x a b w x0 x1 er' he.out
  have heT : ∀ w, (binOp .eql 25 (.agg (rmV bk nr CI NI ra er' cc mc ql sn).toArray) (.agg (rmV bk nr CI NI ra er' cc mc ql sn).toArray)).run Try.prog w = .ok (.bool true) w := fun w => eq_rm (.inr rfl) h' h' (by simp) w
  have HK := Lib.hid hk
  have HK2 := Lib.hid hk2
  have HE := Lib.hid heT
  clear hc hk hk2 hCI hNI heT
  go_enter Try.func8, Try.ntmps8
  go_wp2_with (first | (go_at_call 9; refine (awake13 _).mono ?_; rintro e wa ⟨rfl, hb_wa⟩; have hs_wa := hb_wa.size; (try simp at hs_wa); have RA_a := RmAt.below (rmAt_at (bk := bk) (nr := nr) (ci := ci) (ni := ni) (ra := ra) (er := er) (cc := cc) (mc := mc) (ql := ql) (sn := sn) rfl) hb_wa) | ((with_reducible refine wpList_load25G (rmV bk nr ci ni ra er cc mc ql sn) ?_ ?_ ?_); (focus rfl); (focus (exact ⟨_, rfl, rfl, (by first | exact rm_range RA_1 | exact rm_range RA_a)⟩))) | (go_at_call 17; (with_reducible refine (HK.out _).mono ?_); rintro e wm ⟨rfl, hb_wm⟩; have RA_m := RA_a.below hb_wm) | ((with_reducible refine wpList_fill31 (w := wm) (rmV bk nr CI NI ra er' cc mc ql sn) ?_ ?_); (focus (exact ⟨rfl, rfl, rfl, one_rm _ _ _ _ _ _ _ _ _ _, rfl⟩)); intro W1 hs_W1 hb_W1 M_1; have RA_1 := RA_m.below hb_W1) | (go_at_call 22; (with_reducible refine (HK2.out _).mono ?_); rintro e wr ⟨rfl, hb_wr⟩; have M_r := range_below M_1 hb_wr) | ((with_reducible refine wpList_fill25 (w := wr) (rmV bk nr CI NI ra er' cc mc ql sn) ?_ ?_); (focus (exact ⟨rfl, rfl, rfl, one_rm _ _ _ _ _ _ _ _ _ _, rfl⟩)); intro W2 hs_W2 hb_W2 N_2; have M_2 := range_below M_r hb_W2))
  have B0 : Below w.heap.size w W2 := by
    have h1 : Below w.heap.size w wa := by (repeat' (first | (with_reducible exact Below.refl _ _) | (with_reducible assumption) | (with_reducible refine below_drewN ?_ _) | (with_reducible refine Below.drew ?_) | ((with_reducible refine Below.alloc ?_ ?_ _); (rotate_left; focus (first | omega | (simp; done) | (simp; omega)))) | ((with_reducible refine Below.setCell ?_ ?_ _); (rotate_left; focus (first | omega | (simp; done) | (simp; omega)))) | (with_reducible refine Below.grown ?_ (by assumption) (by first | omega | (simp; omega)) (by simp [Value.ownBlock]; try omega)) | (with_reducible refine below_then ?_ (Aft.below _)) | (with_reducible apply below_then; rotate_left; assumption)))
    have h2 := h1.trans (hb_wm.mono h1.size)
    have h3 := h2.trans (hb_W1.mono h2.size)
    have h4 := h3.trans (hb_wr.mono h3.size)
    exact h4.trans (hb_W2.mono h4.size)
  have heT := HE.out
  clear RA_a RA_m RA_1 M_1 M_r hb_wa hb_wm hb_W1 hb_wr hb_W2 hs_wa hs_W1 hs_W2
  refine wp_region_hold (by kernel_rfl) (by kernel_rfl) ?_
  (refine wpQuiet_load31X (rmV bk nr CI NI ra er' cc mc ql sn) (by simp [Region.wanted, yielded]) ⟨_, rfl, rfl, fun w' hw' => (by obtain ⟨g, rfl⟩ := hw'; exact range_below M_2 (Aft.below g))⟩ ?_); (simp only [Act.put, List.setIfInBounds_toArray, List.set_cons_succ, List.set_cons_zero])
  (refine wpQuiet_load25X (rmV bk nr CI NI ra er' cc mc ql sn) (by simp [Region.wanted, yielded]) ⟨_, rfl, rfl, fun w' hw' => (by obtain ⟨g, rfl⟩ := hw'; exact range_below N_2 (Aft.below g))⟩ ?_); (simp only [Act.put, List.setIfInBounds_toArray, List.set_cons_succ, List.set_cons_zero])
  go_big_quiet_step (fail)
  go_big_quiet_step (fail)
  go_big_quiet_step (fail)
  go_big_quiet_step (fail)
  go_big_quiet_step (fail)
  (refine wpQuiet_load31X (rmV bk nr CI NI ra er' cc mc ql sn) (by simp [Region.wanted, yielded]) ⟨_, rfl, rfl, fun w' hw' => (by obtain ⟨g, rfl⟩ := hw'; exact range_below M_2 (Aft.below g))⟩ ?_); (simp only [Act.put, List.setIfInBounds_toArray, List.set_cons_succ, List.set_cons_zero])
  go_big_quiet_step ((go_at_call 20; exact aft_of (next_is _ _ _ _ _ _ _ _ _ _ _ _ _ c _ n0 n1 p0 p1 f0 f1 h'.e0 h'.e1 HC)))
  go_big_quiet_step (fail)
  go_big_quiet_step (fail)
  go_big_quiet_step (fail)
  go_big_quiet_step (fail)
  (refine wpQuiet_load25X (rmV bk nr CI NI ra er' cc mc ql sn) (by simp [Region.wanted, yielded]) ⟨_, rfl, rfl, fun w' hw' => (by obtain ⟨g, rfl⟩ := hw'; exact range_below N_2 (Aft.below g))⟩ ?_); (simp only [Act.put, List.setIfInBounds_toArray, List.set_cons_succ, List.set_cons_zero])
  go_big_quiet_step ((go_at_call 23; exact aft_of (refNext_is _ _ _ _ _ _ _ _ _ _ _ _ _ c _ n0 n1 p0 p1 f0 f1 h'.e0 h'.e1 HC)))
  (repeat (go_big_quiet_step (fail)))
  refine wpQuiet_nil ?_; intro _ hw'; obtain ⟨g, hw''⟩ := hw'; subst hw''; have hg := g.below
  go_wp2
  go_ret
  exact ⟨rfl, B0.trans (hg.mono B0.size)⟩
namespace rmcellMarks
theorem rmcellMarks_any (bk0 nr0 ci0 ni0 ra0 : Bool) (er0 cc0 mc0 ql0 sn0 : Int) (n1 : Int) (b2 : Bool) (b3 : Bool) (n4 : Int) (n5 : Int) (n6 : Int) (w : World) (z1 : 0 ≤ er0) (z2 : er0 < 65536) (z3 : 0 ≤ cc0) (z4 : cc0 < 65536) (z5 : 0 ≤ mc0) (z6 : mc0 < 65536) (z7 : 0 ≤ ql0) (z8 : ql0 < 4294967296) (z9 : 0 ≤ sn0) (z10 : sn0 < 4294967296) (z11 : 0 ≤ n1) (z12 : n1 < 65536) (z13 : 0 ≤ n4) (z14 : n4 < 65536) (z15 : 0 ≤ n5) (z16 : n5 < 65536) (z17 : 0 ≤ n6) (z18 : n6 < 65536) :
    Calls Try.prog 8 #[.agg #[.bool bk0, .bool nr0, .bool ci0, .bool ni0, .bool ra0, .int .u16 er0, .int .u16 cc0, .int .u16 mc0, .int .u32 ql0, .int .u32 sn0], .int .u16 n1, .bool b2, .bool b3, .int .u16 n4, .int .u16 n5, .int .u16 n6] w fun e w' => e = .returned (.bool true) ∧ Below w.heap.size w w' := by
  exact lawMarks_walk bk0 nr0 ci0 ni0 ra0 er0 cc0 mc0 ql0 sn0 n1 n4 n5 n6 b2 b3 w ⟨z1, z2, z3, z4, z5, z6, z7, z8, z9, z10⟩ z11 z12 z13 z14 z15 z16 z17 z18
end rmcellMarks
end Go.Proofs.Ytnjjejhniekdcaa
