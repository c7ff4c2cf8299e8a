import Derived.Maps.Own
import Derived.Maps.OwnOps
import Derived.Test.YtaoagbnhomjkpaaGreatZTopRates00
import Derived.Test.YtaoagbnhomjkpaaGreatZTopRates07
import Derived.Test.YtaoagbnhomjkpaaGreatZTopRates09
/- conns: numbers by connections. -/
namespace Go.Proofs.YtaoagbnhomjkpaaGreat
set_option linter.unusedVariables false
set_option linter.unusedSimpArgs false
open Go.RowKit
set_option maxRecDepth 100000
set_option maxHeartbeats 4000000
theorem home_in (w : World) : Calls Tryz.prog 78 #[.agg #[.int .i64 0, .int .i64 0, .int .i64 40]] w fun e w' => e = .returned (.int .i64 3) ∧ Below w.heap.size w w' := by
  go_enter Tryz.func78, Tryz.ntmps78
  go_wp2
  go_ret
  exact ⟨by kernel_rfl, by (repeat' (first | exact Below.refl _ _ | assumption | (refine Below.grown ?_ (by assumption) (by first | omega | (simp; omega)) (by simp [Value.ownBlock]; try omega)) | (refine below_drewN ?_ _) | (refine Below.drew ?_) | (refine Below.alloc ?_ (by first | omega | (simp; done) | (simp; omega)) _) | (refine Below.setCell ?_ (by first | omega | (simp; done) | (simp; omega)) _) | (refine below_then ?_ (Aft.below _)) | (apply below_then; rotate_left; assumption)))⟩
theorem home_out (w : World) : Calls Tryz.prog 78 #[.agg #[.int .i64 1, .int .i64 0, .int .i64 50]] w fun e w' => e = .returned (.int .i64 71) ∧ Below w.heap.size w w' := by
  go_enter Tryz.func78, Tryz.ntmps78
  go_wp2
  go_ret
  exact ⟨by kernel_rfl, by (repeat' (first | exact Below.refl _ _ | assumption | (refine Below.grown ?_ (by assumption) (by first | omega | (simp; omega)) (by simp [Value.ownBlock]; try omega)) | (refine below_drewN ?_ _) | (refine Below.drew ?_) | (refine Below.alloc ?_ (by first | omega | (simp; done) | (simp; omega)) _) | (refine Below.setCell ?_ (by first | omega | (simp; done) | (simp; omega)) _) | (refine below_then ?_ (Aft.below _)) | (apply below_then; rotate_left; assumption)))⟩
/-- a table's block. -/
def TabAt (w : World) (b : Nat) (cur : Array Value) : Prop := w.heap[b]? = some (.cells cur 144)
theorem TabAt.lt {w : World} {b : Nat} {cur : Array Value} (h : TabAt w b cur) : b < w.heap.size := (Array.getElem?_eq_some_iff.1 h).1
theorem TabAt.cell {w : World} {b : Nat} {cur : Array Value} (h : TabAt w b cur) (o : Nat) : w.cell? ⟨b, o, none⟩ = cur[o]? := cell_of_row w b o _ _ _ h
theorem TabAt.frozen {w : World} {b : Nat} {cur : Array Value} (h : TabAt w b cur) (o : Nat) : w.frozen? ⟨b, o, none⟩ = false := frozen_of_row w b o _ _ h
theorem TabAt.below {w w' : World} {b : Nat} {cur : Array Value} (h : TabAt w b cur) (hb : Below w.heap.size w w') : TabAt w' b cur := (hb.block b h.lt).trans h
/-- the empty table's cells. -/
noncomputable def tab0 : Array Value := Tryz.zeroCells144.setIfInBounds 641 (.int .i64 64)
theorem newT_any (w : World) : Calls Tryz.prog 25 #[.int .i64 64] w fun e w' => e = .returned (.pointer (some ⟨w.heap.size, 0, none⟩)) ∧ TabAt w' w.heap.size tab0 ∧ w.heap.size < w'.heap.size ∧ Below w.heap.size w w' := by
  go_enter Tryz.func25, Tryz.ntmps25
  go_wp2
  go_ret
  exact ⟨rfl, heap_alloc_new w _, by simp, by (repeat' (first | exact Below.refl _ _ | assumption | (refine Below.grown ?_ (by assumption) (by first | omega | (simp; omega)) (by simp [Value.ownBlock]; try omega)) | (refine below_drewN ?_ _) | (refine Below.drew ?_) | (refine Below.alloc ?_ (by first | omega | (simp; done) | (simp; omega)) _) | (refine Below.setCell ?_ (by first | omega | (simp; done) | (simp; omega)) _) | (refine below_then ?_ (Aft.below _)) | (apply below_then; rotate_left; assumption)))⟩
theorem find_free (b h : Nat) (p v c : Int) (cur : Array Value) (w : World) (hT : TabAt w b cur) (hh : h < 128) (hu : cur[h * 5 + 4]? = some (.bool false))
    (hm : ∀ w, Calls Tryz.prog 78 #[.agg #[.int .i64 p, .int .i64 v, .int .i64 c]] w fun e w' => e = .returned (.int .i64 h) ∧ Below w.heap.size w w') :
    Calls Tryz.prog 56 #[.pointer (some ⟨b, 0, none⟩), .agg #[.int .i64 p, .int .i64 v, .int .i64 c]] w fun e w' => e = .returned (.int .i64 h) ∧ Below w.heap.size w w' := by
  have hl := hT.lt
  go_enter Tryz.func56, Tryz.ntmps56
  go_wp2
  go_step3
  go_wp2_with (go_at_call 78; refine (hm _).mono ?_; rintro e w1 ⟨rfl, hb_w1⟩; have T1 := (hT.below ((Below.refl _ _).alloc (Nat.le_refl _) _)).below hb_w1; have u1 := (T1.cell (h * 5 + 4)).trans hu; have B1 : Below w.heap.size w w1 := ((Below.refl _ _).alloc (Nat.le_refl _) _).trans (hb_w1.mono (by simp)))
  go_step3
  go_wp2_with fail
  refine wp_loop_rounds 2 ?_
  rw [rounds_succ]
  go_wp2
  rw [Exit.noGoto_ret]
  go_ret
  exact ⟨rfl, B1⟩
theorem find_there (b h : Nat) (p v c : Int) (cur : Array Value) (w : World) (hT : TabAt w b cur) (hh : h < 128) (hu : cur[h * 5 + 4]? = some (.bool true)) (h0 : cur[h * 5]? = some (.int .i64 p)) (h1 : cur[h * 5 + 1]? = some (.int .i64 v)) (h2 : cur[h * 5 + 2]? = some (.int .i64 c))
    (hk : ∀ w, (binOp .eql 29 (.agg #[.int .i64 p, .int .i64 v, .int .i64 c]) (.agg #[.int .i64 p, .int .i64 v, .int .i64 c])).run Tryz.prog w = .ok (.bool true) w)
    (hm : ∀ w, Calls Tryz.prog 78 #[.agg #[.int .i64 p, .int .i64 v, .int .i64 c]] w fun e w' => e = .returned (.int .i64 h) ∧ Below w.heap.size w w') :
    Calls Tryz.prog 56 #[.pointer (some ⟨b, 0, none⟩), .agg #[.int .i64 p, .int .i64 v, .int .i64 c]] w fun e w' => e = .returned (.int .i64 h) ∧ Below w.heap.size w w' := by
  have hl := hT.lt
  go_enter Tryz.func56, Tryz.ntmps56
  go_wp2
  go_step3
  go_wp2_with (go_at_call 78; refine (hm _).mono ?_; rintro e w1 ⟨rfl, hb_w1⟩; have T1 := (hT.below ((Below.refl _ _).alloc (Nat.le_refl _) _)).below hb_w1; have u1 := (T1.cell (h * 5 + 4)).trans hu; have u2 := (T1.cell (h * 5)).trans h0; have u3 := (T1.cell (h * 5 + 1)).trans h1; have u4 := (T1.cell (h * 5 + 2)).trans h2; have B1 : Below w.heap.size w w1 := ((Below.refl _ _).alloc (Nat.le_refl _) _).trans (hb_w1.mono (by simp)); have x0 : w1.cell? ⟨w.heap.size, 0, none⟩ = some (.int .i64 p) := cell_keep hb_w1 (cell_top rfl rfl); have x1 : w1.cell? ⟨w.heap.size, 1, none⟩ = some (.int .i64 v) := cell_keep hb_w1 (cell_top rfl rfl); have x2 : w1.cell? ⟨w.heap.size, 2, none⟩ = some (.int .i64 c) := cell_keep hb_w1 (cell_top rfl rfl))
  go_step3
  go_wp2_with fail
  refine wp_loop_rounds 2 ?_
  rw [rounds_succ]
  go_wp2
  go_quiet (fail)
  go_wp2
  rw [Exit.noGoto_ret]
  go_ret
  exact ⟨rfl, below_drewN B1 _⟩
theorem eq_in (w : World) : (binOp .eql 29 (.agg #[.int .i64 0, .int .i64 0, .int .i64 40]) (.agg #[.int .i64 0, .int .i64 0, .int .i64 40])).run Tryz.prog w = .ok (.bool true) w := by kernel_rfl
end Go.Proofs.YtaoagbnhomjkpaaGreat

/- conns: what a table tells of a key. -/
namespace Go.Proofs.YtaoagbnhomjkpaaGreat
set_option linter.unusedVariables false
set_option linter.unusedSimpArgs false
open Go.RowKit
set_option maxRecDepth 100000
set_option maxHeartbeats 4000000
def SG (b : Nat) (cur : Array Value) (q : Nat) (p v c : Int) (w : World) : Prop := TabAt w b cur ∧ w.cell? ⟨q, 0, none⟩ = some (.int .i64 p) ∧ w.cell? ⟨q, 1, none⟩ = some (.int .i64 v) ∧ w.cell? ⟨q, 2, none⟩ = some (.int .i64 c)
theorem SG.below {b q : Nat} {cur : Array Value} {p v c : Int} {w w' : World} (h : SG b cur q p v c w) (hb : Below w.heap.size w w') : SG b cur q p v c w' := ⟨h.1.below hb, cell_keep hb h.2.1, cell_keep hb h.2.2.1, cell_keep hb h.2.2.2⟩
theorem row5 {w : World} {x : Nat} {T : TypeId} {a0 a1 a2 a3 a4 b0 b1 b2 b3 b4 : Value} (h : w.heap[x]? = some (.cells #[a0, a1, a2, a3, a4] T)) :
    (((((w.setCell ⟨x, 0, none⟩ b0).setCell ⟨x, 1, none⟩ b1).setCell ⟨x, 2, none⟩ b2).setCell ⟨x, 3, none⟩ b3).setCell ⟨x, 4, none⟩ b4).heap[x]? = some (.cells #[b0, b1, b2, b3, b4] T) :=
  heap_setCell_same _ x 4 _ _ _ (heap_setCell_same _ x 3 _ _ _ (heap_setCell_same _ x 2 _ _ _ (heap_setCell_same _ x 1 _ _ _ (heap_setCell_same _ x 0 _ _ _ h))))
theorem below5 {w w1 : World} {B x : Nat} {b0 b1 b2 b3 b4 : Value} (h : Below B w w1) (hx : B ≤ x) :
    Below B w (((((w1.setCell ⟨x, 0, none⟩ b0).setCell ⟨x, 1, none⟩ b1).setCell ⟨x, 2, none⟩ b2).setCell ⟨x, 3, none⟩ b3).setCell ⟨x, 4, none⟩ b4) :=
  ((((h.setCell (p := ⟨x, 0, none⟩) hx _).setCell (p := ⟨x, 1, none⟩) hx _).setCell (p := ⟨x, 2, none⟩) hx _).setCell (p := ⟨x, 3, none⟩) hx _).setCell (p := ⟨x, 4, none⟩) hx _
theorem get_any (b h : Nat) (p v c p' v' c' n : Int) (u : Bool) (cur : Array Value) (w : World) (hT : TabAt w b cur) (hh : h < 128) (h0 : cur[h * 5]? = some (.int .i64 p')) (h1 : cur[h * 5 + 1]? = some (.int .i64 v')) (h2 : cur[h * 5 + 2]? = some (.int .i64 c')) (h3 : cur[h * 5 + 3]? = some (.int .i64 n)) (h4 : cur[h * 5 + 4]? = some (.bool u))
    (hf : ∀ w, TabAt w b cur → Calls Tryz.prog 56 #[.pointer (some ⟨b, 0, none⟩), .agg #[.int .i64 p, .int .i64 v, .int .i64 c]] w fun e w' => e = .returned (.int .i64 h) ∧ Below w.heap.size w w') :
    Calls Tryz.prog 50 #[.pointer (some ⟨b, 0, none⟩), .agg #[.int .i64 p, .int .i64 v, .int .i64 c]] w fun e w' => e = .returned (.tuple #[.int .i64 n, .bool u]) ∧ Below w.heap.size w w' := by
  go_enter Tryz.func50, Tryz.ntmps50
  go_wp2
  obtain ⟨W, hW⟩ : ∃ W, W = w.alloc (.cells #[.int .i64 p, .int .i64 v, .int .i64 c] 29) := ⟨_, rfl⟩
  have BW : Below w.heap.size w W := by rw [hW]; exact (Below.refl _ _).alloc (Nat.le_refl _) _
  have S0 : SG b cur w.heap.size p v c W.drew := by rw [hW]; exact ⟨hT.below ((Below.refl _ _).alloc (Nat.le_refl _) _).drew, cell_top rfl rfl, cell_top rfl rfl, cell_top rfl rfl⟩
  rw [← hW]
  clear hW
  refine wp_cut_frame2 (fun x _ Z => Z.cell? ⟨x, 3, none⟩ = some (.int .i64 n) ∧ Z.cell? ⟨x, 4, none⟩ = some (.bool u) ∧ Below w.heap.size w Z) ?_
  apply Exists.intro
  apply And.intro
  focus
    have g1 := fun g : Wits (SG b cur w.heap.size p v c) => (Wits.is g).2.1
    have g2 := fun g : Wits (SG b cur w.heap.size p v c) => (Wits.is g).2.2.1
    have g3 := fun g : Wits (SG b cur w.heap.size p v c) => (Wits.is g).2.2.2
    refine wp_region_float (SG b cur w.heap.size p v c) [3, 9] [0, 1, 2, 4, 5, 3, 6, 7, 9] 8 9 _ _ (by kernel_rfl) (by kernel_rfl) (by kernel_rfl) (by simp only [List.filterMap_cons, List.getElem?_cons_zero, List.getElem?_cons_succ, Option.map_some, List.filterMap_nil]; rfl) rfl rfl rfl rfl S0 ?_
    refine float_quietB_n 5 rfl S0 ?_
    intro _
    (simp only [List.take_succ_cons, List.take_zero, List.drop_succ_cons, List.drop_zero, List.map_cons, List.map_nil])
    (repeat (go_big_quiet_step (fail)))
    (refine wpQuiet_nil ?_)
    clear g1 g2 g3
    have t0 := fun g : Wits (SG b cur w.heap.size p v c) => ((Wits.is g).1.cell (h * 5)).trans h0
    have t1 := fun g : Wits (SG b cur w.heap.size p v c) => ((Wits.is g).1.cell (h * 5 + 1)).trans h1
    have t2 := fun g : Wits (SG b cur w.heap.size p v c) => ((Wits.is g).1.cell (h * 5 + 2)).trans h2
    have t3 := fun g : Wits (SG b cur w.heap.size p v c) => ((Wits.is g).1.cell (h * 5 + 3)).trans h3
    have t4 := fun g : Wits (SG b cur w.heap.size p v c) => ((Wits.is g).1.cell (h * 5 + 4)).trans h4
    refine float_one rfl rfl rfl ?_ ?_
    focus
      have ba := ((Below.refl W.heap.size W).alloc (Nat.le_refl _) (.cells #[.int .i64 0, .int .i64 0, .int .i64 0, .int .i64 0, .bool false] 141)).drew
      have S0a : SG b cur w.heap.size p v c ((W.alloc (.cells #[.int .i64 0, .int .i64 0, .int .i64 0, .int .i64 0, .bool false] 141)).drew) := SG.below (w := W) ⟨S0.1, S0.2⟩ ba
      go_wp2
      refine ⟨rfl, S0a, ?_⟩
      refine lead_one rfl ?_ S0a
      have T0a := S0a.1
      go_wp2_with (go_at_call 56; (with_reducible refine (hf _ T0a).mono ?_); rintro e w1 ⟨rfl, hb_w1⟩)
      have S1 := S0a.below hb_w1
      refine ⟨rfl, S1, ?_⟩
      refine lead_quiet_n 2 rfl S1 ?_
      intro _
      (simp only [List.take_succ_cons, List.take_zero, List.drop_succ_cons, List.drop_zero, List.map_cons, List.map_nil])
      (repeat (go_big_quiet_step (fail)))
      (refine wpQuiet_nil ?_)
      refine lead_one rfl ?_ S1
      have hW1 : W.heap.size < (W.alloc (.cells #[.int .i64 0, .int .i64 0, .int .i64 0, .int .i64 0, .bool false] 141)).drew.heap.size := by simp
      have y0 : w1.cell? ⟨W.heap.size, 0, none⟩ = some (.int .i64 0) := cell_keep hb_w1 (cell_top rfl rfl)
      have y1 : w1.cell? ⟨W.heap.size, 1, none⟩ = some (.int .i64 0) := cell_keep hb_w1 (cell_top rfl rfl)
      have y2 : w1.cell? ⟨W.heap.size, 2, none⟩ = some (.int .i64 0) := cell_keep hb_w1 (cell_top rfl rfl)
      have y3 : w1.cell? ⟨W.heap.size, 3, none⟩ = some (.int .i64 0) := cell_keep hb_w1 (cell_top rfl rfl)
      have y4 : w1.cell? ⟨W.heap.size, 4, none⟩ = some (.bool false) := cell_keep hb_w1 (cell_top rfl rfl)
      have f0 : ∀ j, w1.frozen? ⟨W.heap.size, j, none⟩ = false := fun j => (hb_w1.frozen (p := ⟨W.heap.size, j, none⟩) hW1).trans (frozen_of_row _ _ j _ _ (heap_alloc_new W _))
      have z0 := f0 0
      have z1 := f0 1
      have z2 := f0 2
      have z3 := f0 3
      have z4 := f0 4
      have r1 := (hb_w1.block W.heap.size hW1).trans (heap_alloc_new W _)
      have bW1 := ba.trans (hb_w1.mono (Nat.le_of_lt hW1))
      clear z0 z1 z2 z3 z4
      have z0 := f0 0
      have z1 := f0 1
      have z2 := f0 2
      have z3 := f0 3
      have z4 := f0 4
      go_wp2
      have b5 := below5 (b0 := .int .i64 p') (b1 := .int .i64 v') (b2 := .int .i64 c') (b3 := .int .i64 n) (b4 := .bool u) bW1 (Nat.le_refl _)
      refine ⟨rfl, SG.below (w := W) ⟨S0.1, S0.2⟩ b5, ?_⟩
      refine lead_nil ?_
      have r5 := row5 (b0 := .int .i64 p') (b1 := .int .i64 v') (b2 := .int .i64 c') (b3 := .int .i64 n) (b4 := .bool u) r1
      have k3 := cell_of_row _ W.heap.size 3 _ _ _ r5
      have k4 := cell_of_row _ W.heap.size 4 _ _ _ r5
      have bw := BW.trans (b5.mono BW.size)
      clear r5 b5 bW1 r1 S0a T0a ba
      obtain ⟨x, hx⟩ : ∃ x, x = W.heap.size := ⟨_, rfl⟩
      rw [← hx] at k3 k4 bw ⊢
      obtain ⟨y, _⟩ : ∃ y : Nat, y = 0 := ⟨_, rfl⟩
      exact ⟨x, y, rfl, rfl, k3, k4, bw⟩
    focus
      have T0 := S0.1
      go_wp2_with (go_at_call 56; (with_reducible refine (hf _ T0).mono ?_); rintro e w1 ⟨rfl, hb_w1⟩)
      have S1 := S0.below hb_w1
      refine ⟨rfl, S1, ?_⟩
      refine float_quietB_n 2 rfl S1 ?_
      intro _
      (simp only [List.take_succ_cons, List.take_zero, List.drop_succ_cons, List.drop_zero, List.map_cons, List.map_nil])
      (repeat (go_big_quiet_step (fail)))
      (refine wpQuiet_nil ?_)
      refine float_stop rfl rfl ?_
      have ba := (Below.refl w1.heap.size w1).alloc (Nat.le_refl _) (.cells #[.int .i64 0, .int .i64 0, .int .i64 0, .int .i64 0, .bool false] 141)
      have S2 := S1.below ba
      go_wp2
      refine ⟨rfl, S2, ?_⟩
      refine lead_one rfl ?_ S2
      have hb1 : Below W.heap.size W w1 := ((Below.refl W.heap.size W).drew).trans hb_w1
      have bn := (Below.refl w1.heap.size w1).alloc (Nat.le_refl _) (.cells #[.int .i64 p', .int .i64 v', .int .i64 c', .int .i64 n, .bool u] 141)
      have k3 : (w1.alloc (.cells #[.int .i64 p', .int .i64 v', .int .i64 c', .int .i64 n, .bool u] 141)).cell? ⟨w1.heap.size, 3, none⟩ = some (.int .i64 n) := cell_top rfl rfl
      have k4 : (w1.alloc (.cells #[.int .i64 p', .int .i64 v', .int .i64 c', .int .i64 n, .bool u] 141)).cell? ⟨w1.heap.size, 4, none⟩ = some (.bool u) := cell_top rfl rfl
      go_wp2
      refine ⟨rfl, S1.below bn, ?_⟩
      refine lead_nil ?_
      have bw := BW.trans ((hb1.trans (bn.mono hb1.size)).mono BW.size)
      clear bn ba S2
      obtain ⟨x, hx⟩ : ∃ x, x = w1.heap.size := ⟨_, rfl⟩
      rw [← hx] at k3 k4 ⊢
      obtain ⟨y, _⟩ : ∃ y : Nat, y = 0 := ⟨_, rfl⟩
      exact ⟨x, y, rfl, rfl, k3, k4, bw⟩
  rintro x y Z ⟨k3, k4, bZ⟩
  go_wp2
  go_quiet (fail)
  go_wp2
  go_ret2
  exact ⟨rfl, below_drewN bZ _⟩
end Go.Proofs.YtaoagbnhomjkpaaGreat

/- conns: a number is put to a key. -/
namespace Go.Proofs.YtaoagbnhomjkpaaGreat
set_option linter.unusedVariables false
set_option linter.unusedSimpArgs false
open Go.RowKit
set_option maxRecDepth 100000
set_option maxHeartbeats 4000000
theorem len_any (b : Nat) (cur : Array Value) (n : Int) (w : World) (hT : TabAt w b cur) (h : cur[640]? = some (.int .i64 n)) :
    Calls Tryz.prog 76 #[.pointer (some ⟨b, 0, none⟩)] w fun e w' => e = .returned (.int .i64 n) ∧ Below w.heap.size w w' := by
  have k := (hT.cell 640).trans h
  go_enter Tryz.func76, Tryz.ntmps76
  go_wp2
  go_ret
  exact ⟨rfl, by (repeat' (first | exact Below.refl _ _ | assumption | (refine Below.grown ?_ (by assumption) (by first | omega | (simp; omega)) (by simp [Value.ownBlock]; try omega)) | (refine below_drewN ?_ _) | (refine Below.drew ?_) | (refine Below.alloc ?_ (by first | omega | (simp; done) | (simp; omega)) _) | (refine Below.setCell ?_ (by first | omega | (simp; done) | (simp; omega)) _) | (refine below_then ?_ (Aft.below _)) | (apply below_then; rotate_left; assumption)))⟩
theorem right_in (w : World) : Calls Tryz.prog 28 #[.agg #[.int .i64 0, .int .i64 0, .int .i64 40]] w fun e w' => e = .returned (.bool true) ∧ Below w.heap.size w w' := by
  go_enter Tryz.func28, Tryz.ntmps28
  go_wp2
  go_ret
  exact ⟨rfl, by (repeat' (first | exact Below.refl _ _ | assumption | (refine Below.grown ?_ (by assumption) (by first | omega | (simp; omega)) (by simp [Value.ownBlock]; try omega)) | (refine below_drewN ?_ _) | (refine Below.drew ?_) | (refine Below.alloc ?_ (by first | omega | (simp; done) | (simp; omega)) _) | (refine Below.setCell ?_ (by first | omega | (simp; done) | (simp; omega)) _) | (refine below_then ?_ (Aft.below _)) | (apply below_then; rotate_left; assumption)))⟩
theorem right_out (w : World) : Calls Tryz.prog 28 #[.agg #[.int .i64 1, .int .i64 0, .int .i64 50]] w fun e w' => e = .returned (.bool true) ∧ Below w.heap.size w w' := by
  go_enter Tryz.func28, Tryz.ntmps28
  go_wp2
  go_ret
  exact ⟨rfl, by (repeat' (first | exact Below.refl _ _ | assumption | (refine Below.grown ?_ (by assumption) (by first | omega | (simp; omega)) (by simp [Value.ownBlock]; try omega)) | (refine below_drewN ?_ _) | (refine Below.drew ?_) | (refine Below.alloc ?_ (by first | omega | (simp; done) | (simp; omega)) _) | (refine Below.setCell ?_ (by first | omega | (simp; done) | (simp; omega)) _) | (refine below_then ?_ (Aft.below _)) | (apply below_then; rotate_left; assumption)))⟩
def putC (cur : Array Value) (h : Nat) (p v c n m : Int) : Array Value := (((((cur.setIfInBounds (h * 5) (.int .i64 p)).setIfInBounds (h * 5 + 1) (.int .i64 v)).setIfInBounds (h * 5 + 2) (.int .i64 c)).setIfInBounds (h * 5 + 3) (.int .i64 n)).setIfInBounds (h * 5 + 4) (.bool true)).setIfInBounds 640 (.int .i64 (m + 1))
theorem put_any (b h : Nat) (p v c n m : Int) (cur : Array Value) (w : World) (hT : TabAt w b cur) (hh : h < 128) (g0 g1 g2 g3 : Int) (hg0 : cur[h * 5]? = some (.int .i64 g0)) (hg1 : cur[h * 5 + 1]? = some (.int .i64 g1)) (hg2 : cur[h * 5 + 2]? = some (.int .i64 g2)) (hg3 : cur[h * 5 + 3]? = some (.int .i64 g3)) (hu : cur[h * 5 + 4]? = some (.bool false)) (hm : cur[640]? = some (.int .i64 m)) (hr : cur[641]? = some (.int .i64 64)) (m0 : 0 ≤ m) (m1 : m < 64)
    (hf : ∀ w, TabAt w b cur → Calls Tryz.prog 56 #[.pointer (some ⟨b, 0, none⟩), .agg #[.int .i64 p, .int .i64 v, .int .i64 c]] w fun e w' => e = .returned (.int .i64 h) ∧ Below w.heap.size w w')
    (hg : ∀ w, Calls Tryz.prog 28 #[.agg #[.int .i64 p, .int .i64 v, .int .i64 c]] w fun e w' => e = .returned (.bool true) ∧ Below w.heap.size w w') :
    Calls Tryz.prog 33 #[.pointer (some ⟨b, 0, none⟩), .agg #[.int .i64 p, .int .i64 v, .int .i64 c], .int .i64 n] w fun e w' => e = .returned (.int .i64 0) ∧ TabAt w' b (putC cur h p v c n m) ∧ Chg b w w' := by
  have hl := hT.lt
  go_enter Tryz.func33, Tryz.ntmps33
  go_wp2_with (first
    | (go_at_call 28; refine (hg _).mono ?_; rintro e w1 ⟨rfl, hb_w1⟩; have T1 := (hT.below ((Below.refl _ _).alloc (Nat.le_refl _) _)).below hb_w1; have x0 : w1.cell? ⟨w.heap.size, 0, none⟩ = some (.int .i64 p) := cell_keep hb_w1 (cell_top rfl rfl); have x1 : w1.cell? ⟨w.heap.size, 1, none⟩ = some (.int .i64 v) := cell_keep hb_w1 (cell_top rfl rfl); have x2 : w1.cell? ⟨w.heap.size, 2, none⟩ = some (.int .i64 c) := cell_keep hb_w1 (cell_top rfl rfl))
    | (go_at_call 56; refine (hf _ T1).mono ?_; rintro e w2 ⟨rfl, hb_w2⟩; have T2 := T1.below hb_w2; have y0 := cell_keep hb_w2 x0; have y1 := cell_keep hb_w2 x1; have y2 := cell_keep hb_w2 x2; have u4 := (T2.cell (h * 5 + 4)).trans hu; have u5 := (T2.cell 640).trans hm; have u6 := (T2.cell 641).trans hr; have u0 := (T2.cell (h * 5)).trans hg0; have u1 := (T2.cell (h * 5 + 1)).trans hg1; have u2 := (T2.cell (h * 5 + 2)).trans hg2; have u3 := (T2.cell (h * 5 + 3)).trans hg3; have v0 := T2.frozen (h * 5); have v1 := T2.frozen (h * 5 + 1); have v2 := T2.frozen (h * 5 + 2); have v3 := T2.frozen (h * 5 + 3); have v4 := T2.frozen (h * 5 + 4); have v5 := T2.frozen 640))
  have d1 : decide (64 ≤ m) = false := decide_eq_false (by omega)
  go_quiet (fail)
  go_wp2
  refine region_tail_b 8 (by kernel_rfl) (by kernel_rfl) rfl ?_
  simp only [List.take_succ_cons, List.take_zero, List.drop_succ_cons, List.drop_zero]
  (repeat (go_big_quiet_step (fail)))
  refine wpQuiet_nil ?_
  go_wp2
  go_ret
  have T3 : TabAt (w2.drewN (nq + 1)) b cur := T2
  have G2 : Chg b w w2 := Chg.of ((((Below.refl _ _).alloc (Nat.le_refl _) _).trans (hb_w1.mono (by simp))).trans (hb_w2.mono (by have := hb_w1.size; simp at this; omega)))
  exact ⟨rfl, heap_setCell_same _ b _ _ _ _ (heap_setCell_same _ b _ _ _ _ (heap_setCell_same _ b _ _ _ _ (heap_setCell_same _ b _ _ _ _ (heap_setCell_same _ b _ _ _ _ (heap_setCell_same _ b _ _ _ _ T3))))), ((((((G2.drewN _).setCell _ _).setCell _ _).setCell _ _).setCell _ _).setCell _ _).setCell _ _⟩
end Go.Proofs.YtaoagbnhomjkpaaGreat

/- maps with a number's keys, at most one of which is there: looking up, writing. -/
namespace Go.Proofs.YtaoagbnhomjkpaaGreat
set_option linter.unusedVariables false
set_option linter.unusedSimpArgs false
open Go.RowKit
set_option maxRecDepth 100000
set_option maxHeartbeats 4000000
/-- an empty map; one with one entry. -/
def M0 (w : World) (r : Nat) : Prop := w.heap[r]? = some (.map #[] 0)
def M1 (w : World) (r : Nat) (v : Value) : Prop := w.heap[r]? = some (.map #[⟨.int .i64 0, v, 0⟩] 1)
theorem M0.lt {w : World} {r : Nat} (h : M0 w r) : r < w.heap.size := (Array.getElem?_eq_some_iff.1 h).1
theorem M1.lt {w : World} {r : Nat} {v : Value} (h : M1 w r v) : r < w.heap.size := (Array.getElem?_eq_some_iff.1 h).1
theorem M0.below {w w' : World} {r : Nat} (h : M0 w r) (hb : Below w.heap.size w w') : M0 w' r := (hb.block r h.lt).trans h
theorem M1.below {w w' : World} {r : Nat} {v : Value} (h : M1 w r v) (hb : Below w.heap.size w w') : M1 w' r v := (hb.block r h.lt).trans h
theorem look0 {P : Program} {t kt et : TypeId} {r : Nat} {w : World} {z : Value} (c : Bool) (k : Int) (hm : P.underlying t = some (.map kt et)) (hk : P.underlying kt = some (.int .i64)) (hz : (zeroValue et).run P w = .ok z w) (hb : M0 w r) :
    (Instr.lookup t (.map (some r)) (.int .i64 k) c).run P w = .ok (if c then .tuple #[z, .bool false] else z) w := by
  have hf : Instr.findNow (.int .i64) (.int .i64 k) ([] : List MapEntry) 0 = some none := rfl
  have hc : (Instr.checkKey true 10000 kt (.int .i64 k)).run P w = .ok () w := MapKept.run_checkKey (k := .int .i64 k) hk (by simp [MapKept.IsKey]) true 9999
  simp [Instr.lookup, run_underlying hm, MapKept.run_getObj_map hb, hc, MapKept.run_findKey hk hf, hz, Result.andThen]
theorem look1 {P : Program} {t kt et : TypeId} {r : Nat} {w : World} {v : Value} (c : Bool) (hm : P.underlying t = some (.map kt et)) (hk : P.underlying kt = some (.int .i64)) (hb : M1 w r v) :
    (Instr.lookup t (.map (some r)) (.int .i64 0) c).run P w = .ok (if c then .tuple #[v, .bool true] else v) w := by
  have hf : Instr.findNow (.int .i64) (.int .i64 0) ([⟨.int .i64 0, v, 0⟩] : List MapEntry) 0 = some (some (0, v)) := rfl
  have hc : (Instr.checkKey false 10000 kt (.int .i64 0)).run P w = .ok () w := MapKept.run_checkKey (k := .int .i64 0) hk (by simp [MapKept.IsKey]) false 9999
  simp [Instr.lookup, run_underlying hm, MapKept.run_getObj_map hb, hc, MapKept.run_findKey hk hf, Result.andThen]
theorem upd0 {P : Program} {t kt et : TypeId} {r : Nat} {w : World} {v : Value} (hm : P.underlying t = some (.map kt et)) (hk : P.underlying kt = some (.int .i64)) (hb : M0 w r) :
    (Instr.mapUpdate t (.map (some r)) (.int .i64 0) v).run P w = .ok () { w with heap := w.heap.setIfInBounds r (.map #[⟨.int .i64 0, v, 0⟩] 1) } := by
  have hf : Instr.findNow (.int .i64) (.int .i64 0) ([] : List MapEntry) 0 = some none := rfl
  have hc : (Instr.checkKey false 10000 kt (.int .i64 0)).run P w = .ok () w := MapKept.run_checkKey (k := .int .i64 0) hk (by simp [MapKept.IsKey]) false 9999
  simp [Instr.mapUpdate, run_underlying hm, MapKept.run_getObj_map hb, hc, MapKept.run_findKey hk hf, MapKept.run_setObj_map _ hb, Result.andThen]
theorem wpList_upd0 {P : Program} {w : World} {ops : Array Oper} {rest : List Oper} {o : Oper} {a : Act} {Q : Exit → Act → World → Prop}
    (hg : o.guard = none) (m x v : Operand) (t : TypeId) (hop : o.op = Op.mapUpdate t m x v) {kt et : TypeId} (ht : P.underlying t = some (.map kt et)) (hk : P.underlying kt = some (.int .i64)) {b : Nat} {val : Value}
    (hm : a.eval m = .map (some b)) (hb : M0 w b) (hx : a.eval x = .int .i64 0) (hv : a.eval v = val)
    (hK : ∀ w', M1 w' b val → Chg b w w' → w'.heap.size = w.heap.size → wpList P ops Q rest (a.put o.dst undef) w') :
    wpList P ops Q (o :: rest) a w := by
  refine wpList_plain hg fun K' hK' => ?_
  unfold Oper.wp
  simp [execOp, hop, hm, hx, hv, upd0 ht hk hb, Result.andThen]
  have h2 := MapKept.heap_set (o' := .map #[⟨.int .i64 0, val, 0⟩] 1) hb
  exact hK' _ _ (hK _ h2.1 ⟨rfl, rfl, rfl, by simp, fun k _ hn => h2.2 k hn⟩ (by simp))
end Go.Proofs.YtaoagbnhomjkpaaGreat

/- ledger: what is booked of a room. -/
namespace Go.Proofs.YtaoagbnhomjkpaaGreat
set_option linter.unusedVariables false
set_option linter.unusedSimpArgs false
open Go.RowKit
set_option maxRecDepth 100000
set_option maxHeartbeats 4000000
/-- a ledger's block. -/
def LedAt (w : World) (b : Nat) (r u : Int) (m : Nat) : Prop := w.heap[b]? = some (.cells #[.int .i64 r, .int .i64 u, .map (some m)] 191)
theorem LedAt.lt {w : World} {b m : Nat} {r u : Int} (h : LedAt w b r u m) : b < w.heap.size := (Array.getElem?_eq_some_iff.1 h).1
theorem LedAt.below {w w' : World} {b m : Nat} {r u : Int} (h : LedAt w b r u m) (hb : Below w.heap.size w w') : LedAt w' b r u m := (hb.block b h.lt).trans h
theorem LedAt.cells {w : World} {b m : Nat} {r u : Int} (h : LedAt w b r u m) : w.cell? ⟨b, 0, none⟩ = some (.int .i64 r) ∧ w.cell? ⟨b, 1, none⟩ = some (.int .i64 u) ∧ w.cell? ⟨b, 2, none⟩ = some (.map (some m)) ∧ w.frozen? ⟨b, 1, none⟩ = false :=
  ⟨cell_of_row w b 0 _ _ _ h, cell_of_row w b 1 _ _ _ h, cell_of_row w b 2 _ _ _ h, frozen_of_row w b 1 _ _ h⟩
theorem newL_any (r : Int) (w : World) (r0 : 1 ≤ r) (r1 : r ≤ 1152921504606846976) : Calls Tryz.prog 49 #[.int .i64 r] w fun e w' => e = .returned (.pointer (some ⟨w.heap.size + 1, 0, none⟩)) ∧ M0 w' w.heap.size ∧ LedAt w' (w.heap.size + 1) r 0 w.heap.size ∧ w.heap.size + 1 < w'.heap.size ∧ Below w.heap.size w w' := by
  have e1 : min r 1152921504606846976 = r := by omega
  have e2 : max 0 r = r := by omega
  have hmm := @run_makeMap Tryz.prog
  go_enter Tryz.func49, Tryz.ntmps49
  go_wp2
  go_ret
  have g1 : (w.alloc (.map #[] 0)).heap.size = w.heap.size + 1 := by simp
  refine ⟨rfl, M0.below (w := w.alloc (.map #[] 0)) (heap_alloc_new w _) ((Below.refl _ _).alloc (Nat.le_refl _) _), ?_, (by simp), (by (repeat' (first | exact Below.refl _ _ | assumption | (refine Below.grown ?_ (by assumption) (by first | omega | (simp; omega)) (by simp [Value.ownBlock]; try omega)) | (refine below_drewN ?_ _) | (refine Below.drew ?_) | (refine Below.alloc ?_ (by first | omega | (simp; done) | (simp; omega)) _) | (refine Below.setCell ?_ (by first | omega | (simp; done) | (simp; omega)) _) | (refine below_then ?_ (Aft.below _)) | (apply below_then; rotate_left; assumption))))⟩
  unfold LedAt
  rw [← g1]
  exact heap_alloc_new _ _
theorem newL_ex (r : Int) (w : World) (r0 : 1 ≤ r) (r1 : r ≤ 1152921504606846976) : Calls Tryz.prog 49 #[.int .i64 r] w fun e w' => ∃ g m, e = .returned (.pointer (some ⟨g, 0, none⟩)) ∧ M0 w' m ∧ LedAt w' g r 0 m ∧ (w.heap.size ≤ m ∧ m < g ∧ g < w'.heap.size) ∧ Below w.heap.size w w' :=
  (newL_any r w r0 r1).mono fun _ _ ⟨h1, h2, h3, h4, h5⟩ => ⟨_, _, h1, h2, h3, ⟨Nat.le_refl _, by omega, h4⟩, h5⟩
theorem left_any (b : Nat) (r u : Int) (m : Nat) (w : World) (h : LedAt w b r u m) (h0 : -9223372036854775808 ≤ r - u) (h1 : r - u ≤ 9223372036854775807) :
    Calls Tryz.prog 77 #[.pointer (some ⟨b, 0, none⟩)] w fun e w' => e = .returned (.int .i64 (r - u)) ∧ ∃ n, w' = w.drewN n := by
  obtain ⟨k0, k1, _, _⟩ := h.cells
  go_enter Tryz.func77, Tryz.ntmps77
  go_wp2
  go_quiet (fail)
  go_wp2
  go_ret
  exact ⟨rfl, _, rfl⟩
theorem undL : Tryz.prog.underlying 189 = some (.map 3 3) := by kernel_rfl
theorem undI : Tryz.prog.underlying 3 = some (.int .i64) := by kernel_rfl
theorem zerI (w : World) : (zeroValue 3).run Tryz.prog w = .ok (.int .i64 0) w := by kernel_rfl
theorem book_any (b m : Nat) (r n : Int) (w : World) (h : LedAt w b r 0 m) (hm : M0 w m) (n0 : 0 ≤ n) (n1 : n ≤ r) (r1 : r ≤ 1152921504606846976) :
    Calls Tryz.prog 53 #[.pointer (some ⟨b, 0, none⟩), .int .i64 0, .int .i64 n] w fun e w' => e = .returned (.int .i64 0) ∧ ChgL (fun k => k = b ∨ k = m) w w' := by
  obtain ⟨k0, k1, k2, f1⟩ := h.cells
  have hl : (Instr.lookup 189 (.map (some m)) (.int .i64 0) true).run Tryz.prog w = .ok (.tuple #[.int .i64 0, .bool false]) w := look0 true 0 undL undI (zerI w) hm
  have hne : b ≠ m := fun e => by
    subst e
    have g := h.symm.trans hm
    cases g
  have e1 : IntKind.i64.wrap (0 + n) = n := by rw [IntWalk.i64_in _ (by omega)]; omega
  go_enter Tryz.func53, Tryz.ntmps53
  go_wp2_with (first
    | (go_at_call 77; (with_reducible refine (left_any b r 0 m _ h (by omega) (by omega)).mono ?_); rintro e w1 ⟨rfl, q, rfl⟩)
    | (at_mapUpdate; refine wpList_upd0 (val := .int .i64 n) rfl _ _ _ _ rfl undL undI rfl hm rfl rfl ?_; intro w2 h2 c2 s2; have l2 : LedAt w2 b r 0 m := (c2.block b h.lt hne).trans h; obtain ⟨g0, g1, g2, g3⟩ := l2.cells))
  go_ret
  have C2 : ChgL (fun k => k = b ∨ k = m) w w2 := ChgL.chg ⟨c2.os, c2.tape, c2.output, c2.size, c2.block⟩ (.inr rfl)
  exact ⟨rfl, C2.trans (ChgL.chg ((Chg.refl b w2).setCell 1 _) (.inl rfl))⟩
end Go.Proofs.YtaoagbnhomjkpaaGreat
