import Derived.Test.YtaoagbnhomjkpaaGreatZTopRates02
import Derived.Test.YtaoagbnhomjkpaaGreatZTopRates06
import Derived.Test.YtaoagbnhomjkpaaGreatZTopRates07
import Derived.Test.YtaoagbnhomjkpaaGreatZTopRates08
import Derived.Test.YtaoagbnhomjkpaaGreatZTopRates14
/- plane: a switch in memory; New. -/
namespace Go.Proofs.YtaoagbnhomjkpaaGreat
set_option linter.unusedVariables false
set_option linter.unusedSimpArgs false
open Go.RowKit
set_option maxRecDepth 100000
set_option maxHeartbeats 4000000
/-- a plane's block. -/
def PlnRow (w : World) (Q N T W cm : Nat) (ls : Value) (nx now sp id pa ta dr : Int) : Prop := w.heap[Q]? = some (.cells #[.pointer (some ⟨N, 0, none⟩), ls, .pointer (some ⟨T, 0, none⟩), .map (some W), .map (some cm), .int .i64 0, .int .i64 0, .int .i64 0, .int .i64 10, .int .i64 nx, .int .i64 now, .int .i64 0, .int .i64 sp, .int .i64 id, .int .i64 0, .int .i64 0, .int .i64 0, .int .i64 pa, .int .i64 ta, .int .i64 dr] 83)
section
variable {w w' : World} {Q N T W cm : Nat} {ls : Value} {nx now sp id pa ta dr : Int}
theorem PlnRow.lt (h : PlnRow w Q N T W cm ls nx now sp id pa ta dr) : Q < w.heap.size := (Array.getElem?_eq_some_iff.1 h).1
theorem PlnRow.below (h : PlnRow w Q N T W cm ls nx now sp id pa ta dr) (hb : Below w.heap.size w w') : PlnRow w' Q N T W cm ls nx now sp id pa ta dr := (hb.block Q h.lt).trans h
theorem PlnRow.froz (h : PlnRow w Q N T W cm ls nx now sp id pa ta dr) (o : Nat) : w.frozen? ⟨Q, o, none⟩ = false := frozen_of_row w Q o _ _ h
theorem PlnRow.c0 (h : PlnRow w Q N T W cm ls nx now sp id pa ta dr) : w.cell? ⟨Q, 0, none⟩ = some (.pointer (some ⟨N, 0, none⟩)) := cell_of_row w Q 0 _ _ _ h
theorem PlnRow.c1 (h : PlnRow w Q N T W cm ls nx now sp id pa ta dr) : w.cell? ⟨Q, 1, none⟩ = some (ls) := cell_of_row w Q 1 _ _ _ h
theorem PlnRow.c2 (h : PlnRow w Q N T W cm ls nx now sp id pa ta dr) : w.cell? ⟨Q, 2, none⟩ = some (.pointer (some ⟨T, 0, none⟩)) := cell_of_row w Q 2 _ _ _ h
theorem PlnRow.c3 (h : PlnRow w Q N T W cm ls nx now sp id pa ta dr) : w.cell? ⟨Q, 3, none⟩ = some (.map (some W)) := cell_of_row w Q 3 _ _ _ h
theorem PlnRow.c4 (h : PlnRow w Q N T W cm ls nx now sp id pa ta dr) : w.cell? ⟨Q, 4, none⟩ = some (.map (some cm)) := cell_of_row w Q 4 _ _ _ h
theorem PlnRow.c5 (h : PlnRow w Q N T W cm ls nx now sp id pa ta dr) : w.cell? ⟨Q, 5, none⟩ = some (.int .i64 0) := cell_of_row w Q 5 _ _ _ h
theorem PlnRow.c6 (h : PlnRow w Q N T W cm ls nx now sp id pa ta dr) : w.cell? ⟨Q, 6, none⟩ = some (.int .i64 0) := cell_of_row w Q 6 _ _ _ h
theorem PlnRow.c7 (h : PlnRow w Q N T W cm ls nx now sp id pa ta dr) : w.cell? ⟨Q, 7, none⟩ = some (.int .i64 0) := cell_of_row w Q 7 _ _ _ h
theorem PlnRow.c8 (h : PlnRow w Q N T W cm ls nx now sp id pa ta dr) : w.cell? ⟨Q, 8, none⟩ = some (.int .i64 10) := cell_of_row w Q 8 _ _ _ h
theorem PlnRow.c9 (h : PlnRow w Q N T W cm ls nx now sp id pa ta dr) : w.cell? ⟨Q, 9, none⟩ = some (.int .i64 nx) := cell_of_row w Q 9 _ _ _ h
theorem PlnRow.c10 (h : PlnRow w Q N T W cm ls nx now sp id pa ta dr) : w.cell? ⟨Q, 10, none⟩ = some (.int .i64 now) := cell_of_row w Q 10 _ _ _ h
theorem PlnRow.c11 (h : PlnRow w Q N T W cm ls nx now sp id pa ta dr) : w.cell? ⟨Q, 11, none⟩ = some (.int .i64 0) := cell_of_row w Q 11 _ _ _ h
theorem PlnRow.c12 (h : PlnRow w Q N T W cm ls nx now sp id pa ta dr) : w.cell? ⟨Q, 12, none⟩ = some (.int .i64 sp) := cell_of_row w Q 12 _ _ _ h
theorem PlnRow.c13 (h : PlnRow w Q N T W cm ls nx now sp id pa ta dr) : w.cell? ⟨Q, 13, none⟩ = some (.int .i64 id) := cell_of_row w Q 13 _ _ _ h
theorem PlnRow.c14 (h : PlnRow w Q N T W cm ls nx now sp id pa ta dr) : w.cell? ⟨Q, 14, none⟩ = some (.int .i64 0) := cell_of_row w Q 14 _ _ _ h
theorem PlnRow.c15 (h : PlnRow w Q N T W cm ls nx now sp id pa ta dr) : w.cell? ⟨Q, 15, none⟩ = some (.int .i64 0) := cell_of_row w Q 15 _ _ _ h
theorem PlnRow.c16 (h : PlnRow w Q N T W cm ls nx now sp id pa ta dr) : w.cell? ⟨Q, 16, none⟩ = some (.int .i64 0) := cell_of_row w Q 16 _ _ _ h
theorem PlnRow.c17 (h : PlnRow w Q N T W cm ls nx now sp id pa ta dr) : w.cell? ⟨Q, 17, none⟩ = some (.int .i64 pa) := cell_of_row w Q 17 _ _ _ h
theorem PlnRow.c18 (h : PlnRow w Q N T W cm ls nx now sp id pa ta dr) : w.cell? ⟨Q, 18, none⟩ = some (.int .i64 ta) := cell_of_row w Q 18 _ _ _ h
theorem PlnRow.c19 (h : PlnRow w Q N T W cm ls nx now sp id pa ta dr) : w.cell? ⟨Q, 19, none⟩ = some (.int .i64 dr) := cell_of_row w Q 19 _ _ _ h
theorem PlnRow.sLs {y : Value} (h : PlnRow w Q N T W cm ls nx now sp id pa ta dr) : PlnRow (w.setCell ⟨Q, 1, none⟩ (y)) Q N T W cm y nx now sp id pa ta dr := heap_setCell_same w Q 1 _ _ _ h
theorem PlnRow.sNx {y : Int} (h : PlnRow w Q N T W cm ls nx now sp id pa ta dr) : PlnRow (w.setCell ⟨Q, 9, none⟩ (.int .i64 y)) Q N T W cm ls y now sp id pa ta dr := heap_setCell_same w Q 9 _ _ _ h
theorem PlnRow.sNow {y : Int} (h : PlnRow w Q N T W cm ls nx now sp id pa ta dr) : PlnRow (w.setCell ⟨Q, 10, none⟩ (.int .i64 y)) Q N T W cm ls nx y sp id pa ta dr := heap_setCell_same w Q 10 _ _ _ h
theorem PlnRow.sSp {y : Int} (h : PlnRow w Q N T W cm ls nx now sp id pa ta dr) : PlnRow (w.setCell ⟨Q, 12, none⟩ (.int .i64 y)) Q N T W cm ls nx now y id pa ta dr := heap_setCell_same w Q 12 _ _ _ h
theorem PlnRow.sId {y : Int} (h : PlnRow w Q N T W cm ls nx now sp id pa ta dr) : PlnRow (w.setCell ⟨Q, 13, none⟩ (.int .i64 y)) Q N T W cm ls nx now sp y pa ta dr := heap_setCell_same w Q 13 _ _ _ h
theorem PlnRow.sPa {y : Int} (h : PlnRow w Q N T W cm ls nx now sp id pa ta dr) : PlnRow (w.setCell ⟨Q, 17, none⟩ (.int .i64 y)) Q N T W cm ls nx now sp id y ta dr := heap_setCell_same w Q 17 _ _ _ h
theorem PlnRow.sTa {y : Int} (h : PlnRow w Q N T W cm ls nx now sp id pa ta dr) : PlnRow (w.setCell ⟨Q, 18, none⟩ (.int .i64 y)) Q N T W cm ls nx now sp id pa y dr := heap_setCell_same w Q 18 _ _ _ h
theorem PlnRow.sDr {y : Int} (h : PlnRow w Q N T W cm ls nx now sp id pa ta dr) : PlnRow (w.setCell ⟨Q, 19, none⟩ (.int .i64 y)) Q N T W cm ls nx now sp id pa ta y := heap_setCell_same w Q 19 _ _ _ h
end
/-- a link's block, fresh. -/
def LnkAt (w : World) (K gp : Nat) (d : Bool) : Prop := w.heap[K]? = some (.cells #[.int .i64 0, .int .i64 0, .bool false, .pointer (some ⟨gp, 0, none⟩), .bool d] 88)
theorem LnkAt.lt {w : World} {K gp : Nat} {d : Bool} (h : LnkAt w K gp d) : K < w.heap.size := (Array.getElem?_eq_some_iff.1 h).1
theorem LnkAt.below {w w' : World} {K gp : Nat} {d : Bool} (h : LnkAt w K gp d) (hb : Below w.heap.size w w') : LnkAt w' K gp d := (hb.block K h.lt).trans h
/-- outside of an interval. -/
abbrev Out (a b k : Nat) : Prop := k < a ∨ b ≤ k
/-- a switch on which nothing is open. -/
def Pln0 (lo hi Q : Nat) (r : Int) (w : World) : Prop := ∃ N T W cm L cap K gp a b, PlnRow w Q N T W cm (.slice (some ⟨L, 0, none⟩) 2 cap) 0 0 0 0 0 0 0 ∧ w.cell? ⟨L, 0, none⟩ = some (.pointer (some ⟨K, 0, none⟩)) ∧ LnkAt w K gp false ∧ TabAt w T tab0 ∧ M0 w W ∧ Nod0 a b N r w ∧
  (lo ≤ Q ∧ Q < hi) ∧ (lo ≤ T ∧ T < hi) ∧ (lo ≤ W ∧ W < hi) ∧ (lo ≤ L ∧ L < hi) ∧ (lo ≤ K ∧ K < hi) ∧ lo ≤ a ∧ a ≤ b ∧ b ≤ hi ∧ Out a b Q ∧ Out a b T ∧ Out a b W ∧ Out a b L ∧ Out a b K ∧ L ≠ Q ∧ L ≠ T ∧ L ≠ W ∧ L ≠ K
theorem Nod0.below {lo hi N : Nat} {r : Int} {w w' : World} (h : Nod0 lo hi N r w) (hb : Below w.heap.size w w') : Nod0 lo hi N r w' := by
  obtain ⟨L, cap, T, m, g0, g1, m1, h1, h2, h3, h4, h5, h6, h7, h8⟩ := h
  exact ⟨L, cap, T, m, g0, g1, m1, h1.below hb, cell_keep hb h2, cell_keep hb h3, h4.below hb, h5.below hb, h6.below hb, h7.below hb, h8⟩
theorem Nod0.other {s : Nat → Prop} {lo hi N : Nat} {r : Int} {w w' : World} (h : Nod0 lo hi N r w) (hc : ChgL s w w') (hd : ∀ k, s k → k < lo ∨ hi ≤ k) : Nod0 lo hi N r w' := by
  obtain ⟨L, cap, T, m, g0, g1, m1, h1, h2, h3, h4, h5, h6, h7, h8, bN, bL, bT, bm, bg, bm1, h9⟩ := h
  have q : ∀ {b o : Nat} {v : Value}, (lo ≤ b ∧ b < hi) → w.cell? ⟨b, o, none⟩ = some v → w'.cell? ⟨b, o, none⟩ = some v := fun {b} {o} {v} hb hv =>
    (World.cell?_of_block (w := w) (hc.block b (World.block_lt_of_cell? w _ hv) (fun e => by have := hd _ e; omega))).trans hv
  have q2 : ∀ {b : Nat} {o : Obj}, (lo ≤ b ∧ b < hi) → w.heap[b]? = some o → w'.heap[b]? = some o := fun hb hv =>
    (hc.block _ (Array.getElem?_eq_some_iff.1 hv).1 (fun e => by have := hd _ e; omega)).trans hv
  exact ⟨L, cap, T, m, g0, g1, m1, q2 bN h1, q bL h2, q bL h3, q2 bT h4, q2 bm h5, q2 bg h6, q2 bm1 h7, h8, bN, bL, bT, bm, bg, bm1, h9⟩
def lst (listed : Array Bool) : Nat → Bool := fun j => listed.getD j false
theorem lst_set {listed : Array Bool} {i : Nat} (h : listed.getD i true = false) : lst (listed.setIfInBounds i true) i = true ∧ lst listed i = false ∧ ∀ j, j ≠ i → lst (listed.setIfInBounds i true) j = true → lst listed j = true := by
  have hi : i < listed.size := by
    rcases Nat.lt_or_ge i listed.size with h' | h'
    · exact h'
    · simp [Array.getElem?_eq_none h'] at h
  refine ⟨by unfold lst; simp [hi], by unfold lst; simp [hi] at h ⊢; exact h, fun j hj => ?_⟩
  unfold lst
  rw [getD_set_ne false (Ne.symm hj)]
  exact id
/-- while a switch is made: what has come up so far. -/
def NI (V : World) (R Kb : Nat) (r : Int) (l : Nat → Bool) (x : Act) (w' : World) : Prop := ∃ (s : Nat → Value) (N a b T m c Q : Nat),
  x = { tmps := #[.slice (some ⟨R, 0, none⟩) 2 2, .agg #[.int .i64 0, .int .i64 0, .int .i64 0], .int .i64 10, undef, .pointer (some ⟨Kb, 0, none⟩), undef, .pointer none, s 7, s 8, s 9, s 10, s 11, s 12, s 13, s 14, s 15, s 16, undef, undef, undef, undef, undef, undef, undef, undef, undef, undef, undef, undef, undef, undef, undef, undef, undef, undef, undef, undef], defers := [] } ∧ Below V.heap.size V w' ∧
  (l 0 = true → s 8 = .slice (some ⟨R, 0, none⟩) 2 2) ∧
  (l 1 = true → s 9 = .pointer (some ⟨N, 0, none⟩) ∧ Nod0 a b N r w' ∧ V.heap.size ≤ a ∧ a ≤ b ∧ b ≤ w'.heap.size) ∧
  (l 2 = true → s 10 = .pointer (some ⟨T, 0, none⟩) ∧ TabAt w' T tab0 ∧ V.heap.size ≤ T) ∧
  (l 3 = true → s 11 = .map (some m) ∧ M0 w' m ∧ V.heap.size ≤ m) ∧
  (l 4 = true → s 12 = .map (some c)) ∧
  (l 5 = true → s 13 = .agg #[.int .i64 0, .int .i64 0, .int .i64 0]) ∧
  (l 6 = true → s 14 = .int .i64 10) ∧
  (l 7 = true → s 15 = .agg #[.pointer (some ⟨N, 0, none⟩), .slice none 0 0, .pointer (some ⟨T, 0, none⟩), .map (some m), .map (some c), .int .i64 0, .int .i64 0, .int .i64 0, .int .i64 10, .int .i64 0, .int .i64 0, .int .i64 0, .int .i64 0, .int .i64 0, .int .i64 0, .int .i64 0, .int .i64 0, .int .i64 0, .int .i64 0, .int .i64 0]) ∧
  (l 8 = true → s 16 = .pointer (some ⟨Q, 0, none⟩) ∧ PlnRow w' Q N T m c (.slice none 0 0) 0 0 0 0 0 0 0 ∧ V.heap.size ≤ Q) ∧
  (l 9 = true → s 7 = .pointer (some ⟨Q, 0, none⟩)) ∧
  (l 1 = true → l 2 = true → Out a b T) ∧
  (l 1 = true → l 3 = true → Out a b m) ∧
  (l 1 = true → l 8 = true → Out a b Q) ∧
  (l 7 = true → l 1 = true ∧ l 2 = true ∧ l 3 = true ∧ l 4 = true ∧ l 5 = true ∧ l 6 = true) ∧
  (l 8 = true → l 7 = true) ∧
  (l 9 = true → l 8 = true)
theorem newP_any (R : Nat) (r : Int) (w : World) (h0 : w.cell? ⟨R, 0, none⟩ = some (.int .i64 r)) (h1 : w.cell? ⟨R, 1, none⟩ = some (.int .i64 r)) (r0 : 1 ≤ r) (r1 : r ≤ 1152921504606846976) :
    Calls Tryz.prog 8 #[.slice (some ⟨R, 0, none⟩) 2 2, .agg #[.int .i64 0, .int .i64 0, .int .i64 0], .int .i64 10] w fun e w' => ∃ Q, e = .returned (.pointer (some ⟨Q, 0, none⟩)) ∧ Pln0 w.heap.size w'.heap.size Q r w' ∧ Below w.heap.size w w' := by
  have hmm := @run_makeMap Tryz.prog
  go_enter Tryz.func8, Tryz.ntmps8
  go_wp2
  obtain ⟨V, hV⟩ : ∃ V, V = w.alloc (.cells #[.int .i64 0, .int .i64 0, .int .i64 0] 34) := ⟨_, rfl⟩
  have BV : Below w.heap.size w V := by rw [hV]; exact (Below.refl _ _).alloc (Nat.le_refl _) _
  have x0 : V.cell? ⟨w.heap.size, 0, none⟩ = some (.int .i64 0) := by rw [hV]; exact cell_top rfl rfl
  have x1 : V.cell? ⟨w.heap.size, 1, none⟩ = some (.int .i64 0) := by rw [hV]; exact cell_top rfl rfl
  have x2 : V.cell? ⟨w.heap.size, 2, none⟩ = some (.int .i64 0) := by rw [hV]; exact cell_top rfl rfl
  have lR := World.block_lt_of_cell? w _ h0
  have k0 := (BV.cell (p := ⟨R, 0, none⟩) lR).trans h0
  have k1 := (BV.cell (p := ⟨R, 1, none⟩) lR).trans h1
  rw [← hV]
  clear hV
  obtain ⟨Kb, hK⟩ : ∃ Kb, Kb = w.heap.size := ⟨_, rfl⟩
  rw [← hK] at x0 x1 x2 ⊢
  clear hK
  have lRV : R < V.heap.size := Nat.lt_of_lt_of_le lR BV.size
  have lRV : R < V.heap.size := Nat.lt_of_lt_of_le lR BV.size
  have lRV : R < V.heap.size := Nat.lt_of_lt_of_le lR BV.size
  have lRV : R < V.heap.size := Nat.lt_of_lt_of_le lR BV.size
  refine wp_region_inv (fun listed x w' => NI V R Kb r (lst listed) x w') (by kernel_rfl) (by kernel_rfl) ?start ?step ?stop
  case start =>
    refine ⟨fun _ => undef, 0, 0, 0, 0, 0, 0, 0, rfl, (Below.refl _ _).drew, ?_⟩
    have h : ∀ j, lst (Array.replicate 10 false) j = true → False := fun j h => by
      unfold lst at h
      rcases Nat.lt_or_ge j 10 with h' | h'
      · simp [h'] at h
      · simp [Array.getElem?_eq_none, h'] at h
    exact ⟨fun e => (h _ e).elim, fun e => (h _ e).elim, fun e => (h _ e).elim, fun e => (h _ e).elim, fun e => (h _ e).elim, fun e => (h _ e).elim, fun e => (h _ e).elim, fun e => (h _ e).elim, fun e => (h _ e).elim, fun e => (h _ e).elim, fun e => (h _ e).elim, fun e => (h _ e).elim, fun e => (h _ e).elim, fun e => (h _ e).elim, fun e => (h _ e).elim, fun e => (h _ e).elim⟩
  case step =>
    intro i o listed x w' ho hs hu hall hI
    obtain ⟨hi, hn, hq⟩ := lst_set hu
    have hd : ∀ e ∈ o.after, Region.binds .any e = true → lst listed e.on = true := hall
    have up : ∀ j, j ≠ i → lst listed j = true → lst (listed.setIfInBounds i true) j = true := fun j hj h => by
      unfold lst at h ⊢
      rw [getD_set_ne false (Ne.symm hj)]; exact h
    obtain ⟨l, hl⟩ : ∃ l, lst listed = l := ⟨_, rfl⟩
    obtain ⟨l', hl'⟩ : ∃ l', lst (listed.setIfInBounds i true) = l' := ⟨_, rfl⟩
    rw [hl] at hd hI hn hq up
    rw [hl'] at hi hq up ⊢
    clear hl hl' hall hs hu
    obtain ⟨s, N, a, b, T, m, c, Q, rfl, hB, i0, i1, i2, i3, i4, i5, i6, i7, i8, i9, i10, i11, i12, j7, j8, j9⟩ := hI
    have HB := Lib.hid hB
    rcases i with _ | _ | _ | _ | _ | _ | _ | _ | _ | _ | i
    all_goals (simp only [List.getElem?_cons_zero, List.getElem?_cons_succ] at ho; first | (injection ho with ho; subst ho) | cases ho)
    · have q := hq
      go_wp2
      refine ⟨rfl, ⟨fun j => if j = 8 then .slice (some ⟨R, 0, none⟩) 2 2 else s j, N, a, b, T, m, c, Q, rfl, hB, ?_⟩⟩
      exact ⟨fun _ => rfl,
        fun h => i1 (q 1 (by decide) h),
        fun h => i2 (q 2 (by decide) h),
        fun h => i3 (q 3 (by decide) h),
        fun h => i4 (q 4 (by decide) h),
        fun h => i5 (q 5 (by decide) h),
        fun h => i6 (q 6 (by decide) h),
        fun h => i7 (q 7 (by decide) h),
        fun h => i8 (q 8 (by decide) h),
        fun h => i9 (q 9 (by decide) h),
        fun h h2 => i10 (q 1 (by decide) h) (q 2 (by decide) h2),
        fun h h2 => i11 (q 1 (by decide) h) (q 3 (by decide) h2),
        fun h h2 => i12 (q 1 (by decide) h) (q 8 (by decide) h2),
        fun h => (let ⟨y1, y2, y3, y4, y5, y6⟩ := j7 (q 7 (by decide) h); ⟨up 1 (by decide) y1, up 2 (by decide) y2, up 3 (by decide) y3, up 4 (by decide) y4, up 5 (by decide) y5, up 6 (by decide) y6⟩),
        fun h => up 7 (by decide) (j8 (q 8 (by decide) h)),
        fun h => up 8 (by decide) (j9 (q 9 (by decide) h))⟩
    · have q := hq
      have n7 : ¬ l 7 = true := fun h => by have h1 := j7 h; simp [hn] at h1
      have n8 : ¬ l 8 = true := fun h => n7 (j8 h)
      have n9 : ¬ l 9 = true := fun h => n8 (j9 h)
      have d0 := hd ⟨0, .data⟩ (by simp) rfl
      rw [i0 d0]
      go_wp2_with (go_at_call 24; (with_reducible refine (newN_any R r _ ((hB.cell (p := ⟨R, 0, none⟩) lRV).trans k0) ((hB.cell (p := ⟨R, 1, none⟩) lRV).trans k1) r0 r1).mono ?_); rintro e w1 ⟨N1, rfl, hN1, b1⟩)
      have zB := hB.size
      have zb := b1.size
      refine ⟨rfl, ⟨fun j => if j = 8 then .slice (some ⟨R, 0, none⟩) 2 2 else if j = 9 then .pointer (some ⟨N1, 0, none⟩) else s j, N1, w'.heap.size, w1.heap.size, T, m, c, Q, rfl, hB.trans (b1.mono zB), ?_⟩⟩
      exact ⟨fun _ => rfl,
        fun _ => ⟨rfl, hN1, zB, zb, Nat.le_refl _⟩,
        fun h => (let ⟨x, y, z⟩ := i2 (q 2 (by decide) h); ⟨x, y.below b1, z⟩),
        fun h => (let ⟨x, y, z⟩ := i3 (q 3 (by decide) h); ⟨x, y.below b1, z⟩),
        fun h => i4 (q 4 (by decide) h),
        fun h => i5 (q 5 (by decide) h),
        fun h => i6 (q 6 (by decide) h),
        fun h => absurd (q 7 (by decide) h) n7,
        fun h => absurd (q 8 (by decide) h) n8,
        fun h => absurd (q 9 (by decide) h) n9,
        fun _ h2 => .inl (i2 (q 2 (by decide) h2)).2.1.lt,
        fun _ h2 => .inl (i3 (q 3 (by decide) h2)).2.1.lt,
        fun h h2 => absurd (q 8 (by decide) h2) n8,
        fun h => absurd (q 7 (by decide) h) n7,
        fun h => absurd (q 8 (by decide) h) n8,
        fun h => absurd (q 9 (by decide) h) n9⟩
    · have q := hq
      have n7 : ¬ l 7 = true := fun h => by have h1 := j7 h; simp [hn] at h1
      have n8 : ¬ l 8 = true := fun h => n7 (j8 h)
      have n9 : ¬ l 9 = true := fun h => n8 (j9 h)
      go_wp2_with (go_at_call 25; (with_reducible refine (newT_any _).mono ?_); rintro e w1 ⟨rfl, hT1, lt1, b1⟩)
      have zB := hB.size
      refine ⟨rfl, ⟨fun j => if j = 10 then .pointer (some ⟨w'.heap.size, 0, none⟩) else s j, N, a, b, w'.heap.size, m, c, Q, rfl, hB.trans (b1.mono zB), ?_⟩⟩
      exact ⟨fun h => i0 (q 0 (by decide) h),
        fun h => (let ⟨x, y, z⟩ := i1 (q 1 (by decide) h); ⟨x, y.below b1, z.1, z.2.1, Nat.le_trans z.2.2 (b1).size⟩),
        fun _ => ⟨rfl, hT1, zB⟩,
        fun h => (let ⟨x, y, z⟩ := i3 (q 3 (by decide) h); ⟨x, y.below b1, z⟩),
        fun h => i4 (q 4 (by decide) h),
        fun h => i5 (q 5 (by decide) h),
        fun h => i6 (q 6 (by decide) h),
        fun h => absurd (q 7 (by decide) h) n7,
        fun h => absurd (q 8 (by decide) h) n8,
        fun h => absurd (q 9 (by decide) h) n9,
        fun h _ => .inr (i1 (q 1 (by decide) h)).2.2.2.2,
        fun h h2 => i11 (q 1 (by decide) h) (q 3 (by decide) h2),
        fun h h2 => absurd (q 8 (by decide) h2) n8,
        fun h => absurd (q 7 (by decide) h) n7,
        fun h => absurd (q 8 (by decide) h) n8,
        fun h => absurd (q 9 (by decide) h) n9⟩
    · have q := hq
      have n7 : ¬ l 7 = true := fun h => by have h1 := j7 h; simp [hn] at h1
      have n8 : ¬ l 8 = true := fun h => n7 (j8 h)
      have n9 : ¬ l 9 = true := fun h => n8 (j9 h)
      go_wp2
      have zB := hB.size
      have b1 : Below w'.heap.size w' (w'.alloc (.map #[] 0)) := (Below.refl _ _).alloc (Nat.le_refl _) _
      refine ⟨rfl, ⟨fun j => if j = 11 then .map (some w'.heap.size) else s j, N, a, b, T, w'.heap.size, c, Q, rfl, hB.trans (b1.mono zB), ?_⟩⟩
      exact ⟨fun h => i0 (q 0 (by decide) h),
        fun h => (let ⟨x, y, z⟩ := i1 (q 1 (by decide) h); ⟨x, y.below b1, z.1, z.2.1, Nat.le_trans z.2.2 (b1).size⟩),
        fun h => (let ⟨x, y, z⟩ := i2 (q 2 (by decide) h); ⟨x, y.below b1, z⟩),
        fun _ => ⟨rfl, heap_alloc_new w' _, zB⟩,
        fun h => i4 (q 4 (by decide) h),
        fun h => i5 (q 5 (by decide) h),
        fun h => i6 (q 6 (by decide) h),
        fun h => absurd (q 7 (by decide) h) n7,
        fun h => absurd (q 8 (by decide) h) n8,
        fun h => absurd (q 9 (by decide) h) n9,
        fun h h2 => i10 (q 1 (by decide) h) (q 2 (by decide) h2),
        fun h _ => .inr (i1 (q 1 (by decide) h)).2.2.2.2,
        fun h h2 => absurd (q 8 (by decide) h2) n8,
        fun h => absurd (q 7 (by decide) h) n7,
        fun h => absurd (q 8 (by decide) h) n8,
        fun h => absurd (q 9 (by decide) h) n9⟩
    · have q := hq
      have n7 : ¬ l 7 = true := fun h => by have h1 := j7 h; simp [hn] at h1
      have n8 : ¬ l 8 = true := fun h => n7 (j8 h)
      have n9 : ¬ l 9 = true := fun h => n8 (j9 h)
      go_wp2
      have zB := hB.size
      have b1 : Below w'.heap.size w' (w'.alloc (.map #[] 0)) := (Below.refl _ _).alloc (Nat.le_refl _) _
      refine ⟨rfl, ⟨fun j => if j = 12 then .map (some w'.heap.size) else s j, N, a, b, T, m, w'.heap.size, Q, rfl, hB.trans (b1.mono zB), ?_⟩⟩
      exact ⟨fun h => i0 (q 0 (by decide) h),
        fun h => (let ⟨x, y, z⟩ := i1 (q 1 (by decide) h); ⟨x, y.below b1, z.1, z.2.1, Nat.le_trans z.2.2 (b1).size⟩),
        fun h => (let ⟨x, y, z⟩ := i2 (q 2 (by decide) h); ⟨x, y.below b1, z⟩),
        fun h => (let ⟨x, y, z⟩ := i3 (q 3 (by decide) h); ⟨x, y.below b1, z⟩),
        fun _ => rfl,
        fun h => i5 (q 5 (by decide) h),
        fun h => i6 (q 6 (by decide) h),
        fun h => absurd (q 7 (by decide) h) n7,
        fun h => absurd (q 8 (by decide) h) n8,
        fun h => absurd (q 9 (by decide) h) n9,
        fun h h2 => i10 (q 1 (by decide) h) (q 2 (by decide) h2),
        fun h h2 => i11 (q 1 (by decide) h) (q 3 (by decide) h2),
        fun h h2 => absurd (q 8 (by decide) h2) n8,
        fun h => absurd (q 7 (by decide) h) n7,
        fun h => absurd (q 8 (by decide) h) n8,
        fun h => absurd (q 9 (by decide) h) n9⟩
    · have q := hq
      have n7 : ¬ l 7 = true := fun h => by have h1 := j7 h; simp [hn] at h1
      have n8 : ¬ l 8 = true := fun h => n7 (j8 h)
      have n9 : ¬ l 9 = true := fun h => n8 (j9 h)
      have y0 := cell_keep hB x0
      have y1 := cell_keep hB x1
      have y2 := cell_keep hB x2
      go_wp2
      refine ⟨rfl, ⟨fun j => if j = 13 then .agg #[.int .i64 0, .int .i64 0, .int .i64 0] else s j, N, a, b, T, m, c, Q, rfl, hB, ?_⟩⟩
      exact ⟨fun h => i0 (q 0 (by decide) h),
        fun h => (let ⟨x, y, z⟩ := i1 (q 1 (by decide) h); ⟨x, y, z⟩),
        fun h => (let ⟨x, y, z⟩ := i2 (q 2 (by decide) h); ⟨x, y, z⟩),
        fun h => (let ⟨x, y, z⟩ := i3 (q 3 (by decide) h); ⟨x, y, z⟩),
        fun h => i4 (q 4 (by decide) h),
        fun _ => rfl,
        fun h => i6 (q 6 (by decide) h),
        fun h => absurd (q 7 (by decide) h) n7,
        fun h => absurd (q 8 (by decide) h) n8,
        fun h => absurd (q 9 (by decide) h) n9,
        fun h h2 => i10 (q 1 (by decide) h) (q 2 (by decide) h2),
        fun h h2 => i11 (q 1 (by decide) h) (q 3 (by decide) h2),
        fun h h2 => absurd (q 8 (by decide) h2) n8,
        fun h => absurd (q 7 (by decide) h) n7,
        fun h => absurd (q 8 (by decide) h) n8,
        fun h => absurd (q 9 (by decide) h) n9⟩
    · have q := hq
      have n7 : ¬ l 7 = true := fun h => by have h1 := j7 h; simp [hn] at h1
      have n8 : ¬ l 8 = true := fun h => n7 (j8 h)
      have n9 : ¬ l 9 = true := fun h => n8 (j9 h)
      go_wp2
      refine ⟨rfl, ⟨fun j => if j = 14 then .int .i64 10 else s j, N, a, b, T, m, c, Q, rfl, hB, ?_⟩⟩
      exact ⟨fun h => i0 (q 0 (by decide) h),
        fun h => (let ⟨x, y, z⟩ := i1 (q 1 (by decide) h); ⟨x, y, z⟩),
        fun h => (let ⟨x, y, z⟩ := i2 (q 2 (by decide) h); ⟨x, y, z⟩),
        fun h => (let ⟨x, y, z⟩ := i3 (q 3 (by decide) h); ⟨x, y, z⟩),
        fun h => i4 (q 4 (by decide) h),
        fun h => i5 (q 5 (by decide) h),
        fun _ => rfl,
        fun h => absurd (q 7 (by decide) h) n7,
        fun h => absurd (q 8 (by decide) h) n8,
        fun h => absurd (q 9 (by decide) h) n9,
        fun h h2 => i10 (q 1 (by decide) h) (q 2 (by decide) h2),
        fun h h2 => i11 (q 1 (by decide) h) (q 3 (by decide) h2),
        fun h h2 => absurd (q 8 (by decide) h2) n8,
        fun h => absurd (q 7 (by decide) h) n7,
        fun h => absurd (q 8 (by decide) h) n8,
        fun h => absurd (q 9 (by decide) h) n9⟩
    · have q := hq
      have n7 : ¬ l 7 = true := by simp [hn]
      have n8 : ¬ l 8 = true := fun h => n7 (j8 h)
      have n9 : ¬ l 9 = true := fun h => n8 (j9 h)
      have d1 := hd ⟨1, .data⟩ (by simp) rfl
      have d2 := hd ⟨2, .data⟩ (by simp) rfl
      have d3 := hd ⟨3, .data⟩ (by simp) rfl
      have d4 := hd ⟨4, .data⟩ (by simp) rfl
      have d5 := hd ⟨5, .data⟩ (by simp) rfl
      have d6 := hd ⟨6, .data⟩ (by simp) rfl
      rw [(i1 d1).1, (i2 d2).1, (i3 d3).1, i4 d4, i5 d5, i6 d6]
      go_wp2
      refine ⟨rfl, ⟨fun j => if j = 9 then .pointer (some ⟨N, 0, none⟩) else if j = 10 then .pointer (some ⟨T, 0, none⟩) else if j = 11 then .map (some m) else if j = 12 then .map (some c) else if j = 13 then .agg #[.int .i64 0, .int .i64 0, .int .i64 0] else if j = 14 then .int .i64 10 else if j = 15 then .agg #[.pointer (some ⟨N, 0, none⟩), .slice none 0 0, .pointer (some ⟨T, 0, none⟩), .map (some m), .map (some c), .int .i64 0, .int .i64 0, .int .i64 0, .int .i64 10, .int .i64 0, .int .i64 0, .int .i64 0, .int .i64 0, .int .i64 0, .int .i64 0, .int .i64 0, .int .i64 0, .int .i64 0, .int .i64 0, .int .i64 0] else s j, N, a, b, T, m, c, Q, rfl, hB, ?_⟩⟩
      exact ⟨fun h => i0 (q 0 (by decide) h),
        fun h => (let ⟨x, y, z⟩ := i1 (q 1 (by decide) h); ⟨rfl, y, z⟩),
        fun h => (let ⟨x, y, z⟩ := i2 (q 2 (by decide) h); ⟨rfl, y, z⟩),
        fun h => (let ⟨x, y, z⟩ := i3 (q 3 (by decide) h); ⟨rfl, y, z⟩),
        fun _ => rfl,
        fun _ => rfl,
        fun _ => rfl,
        fun _ => rfl,
        fun h => absurd (q 8 (by decide) h) n8,
        fun h => absurd (q 9 (by decide) h) n9,
        fun h h2 => i10 (q 1 (by decide) h) (q 2 (by decide) h2),
        fun h h2 => i11 (q 1 (by decide) h) (q 3 (by decide) h2),
        fun h h2 => absurd (q 8 (by decide) h2) n8,
        fun _ => ⟨up 1 (by decide) d1, up 2 (by decide) d2, up 3 (by decide) d3, up 4 (by decide) d4, up 5 (by decide) d5, up 6 (by decide) d6⟩,
        fun h => absurd (q 8 (by decide) h) n8,
        fun h => absurd (q 9 (by decide) h) n9⟩
    · have q := hq
      have n8 : ¬ l 8 = true := by simp [hn]
      have n9 : ¬ l 9 = true := fun h => n8 (j9 h)
      have d7 := hd ⟨7, .data⟩ (by simp) rfl
      rw [i7 d7]
      go_wp2
      have zB := hB.size
      have b1 : Below w'.heap.size w' (w'.alloc (.cells #[.pointer (some ⟨N, 0, none⟩), .slice none 0 0, .pointer (some ⟨T, 0, none⟩), .map (some m), .map (some c), .int .i64 0, .int .i64 0, .int .i64 0, .int .i64 10, .int .i64 0, .int .i64 0, .int .i64 0, .int .i64 0, .int .i64 0, .int .i64 0, .int .i64 0, .int .i64 0, .int .i64 0, .int .i64 0, .int .i64 0] 83)) := (Below.refl _ _).alloc (Nat.le_refl _) _
      refine ⟨rfl, ⟨fun j => if j = 9 then .pointer (some ⟨N, 0, none⟩) else if j = 10 then .pointer (some ⟨T, 0, none⟩) else if j = 11 then .map (some m) else if j = 12 then .map (some c) else if j = 13 then .agg #[.int .i64 0, .int .i64 0, .int .i64 0] else if j = 14 then .int .i64 10 else if j = 15 then .agg #[.pointer (some ⟨N, 0, none⟩), .slice none 0 0, .pointer (some ⟨T, 0, none⟩), .map (some m), .map (some c), .int .i64 0, .int .i64 0, .int .i64 0, .int .i64 10, .int .i64 0, .int .i64 0, .int .i64 0, .int .i64 0, .int .i64 0, .int .i64 0, .int .i64 0, .int .i64 0, .int .i64 0, .int .i64 0, .int .i64 0] else if j = 16 then .pointer (some ⟨w'.heap.size, 0, none⟩) else s j, N, a, b, T, m, c, w'.heap.size, rfl, hB.trans (b1.mono zB), ?_⟩⟩
      exact ⟨fun h => i0 (q 0 (by decide) h),
        fun h => (let ⟨x, y, z⟩ := i1 (q 1 (by decide) h); ⟨rfl, y.below b1, z.1, z.2.1, Nat.le_trans z.2.2 (b1).size⟩),
        fun h => (let ⟨x, y, z⟩ := i2 (q 2 (by decide) h); ⟨rfl, y.below b1, z⟩),
        fun h => (let ⟨x, y, z⟩ := i3 (q 3 (by decide) h); ⟨rfl, y.below b1, z⟩),
        fun _ => rfl,
        fun _ => rfl,
        fun _ => rfl,
        fun _ => rfl,
        fun _ => ⟨rfl, heap_alloc_new w' _, zB⟩,
        fun h => absurd (q 9 (by decide) h) n9,
        fun h h2 => i10 (q 1 (by decide) h) (q 2 (by decide) h2),
        fun h h2 => i11 (q 1 (by decide) h) (q 3 (by decide) h2),
        fun h _ => .inr (i1 (q 1 (by decide) h)).2.2.2.2,
        fun h => (let ⟨y1, y2, y3, y4, y5, y6⟩ := j7 (q 7 (by decide) h); ⟨up 1 (by decide) y1, up 2 (by decide) y2, up 3 (by decide) y3, up 4 (by decide) y4, up 5 (by decide) y5, up 6 (by decide) y6⟩),
        fun _ => up 7 (by decide) d7,
        fun h => absurd (q 9 (by decide) h) n9⟩
    · have q := hq
      have d8 := hd ⟨8, .data⟩ (by simp) rfl
      rw [(i8 d8).1]
      go_wp2
      refine ⟨rfl, ⟨fun j => if j = 15 then .agg #[.pointer (some ⟨N, 0, none⟩), .slice none 0 0, .pointer (some ⟨T, 0, none⟩), .map (some m), .map (some c), .int .i64 0, .int .i64 0, .int .i64 0, .int .i64 10, .int .i64 0, .int .i64 0, .int .i64 0, .int .i64 0, .int .i64 0, .int .i64 0, .int .i64 0, .int .i64 0, .int .i64 0, .int .i64 0, .int .i64 0] else if j = 16 then .pointer (some ⟨Q, 0, none⟩) else if j = 7 then .pointer (some ⟨Q, 0, none⟩) else s j, N, a, b, T, m, c, Q, rfl, hB, ?_⟩⟩
      exact ⟨fun h => i0 (q 0 (by decide) h),
        fun h => (let ⟨x, y, z⟩ := i1 (q 1 (by decide) h); ⟨x, y, z⟩),
        fun h => (let ⟨x, y, z⟩ := i2 (q 2 (by decide) h); ⟨x, y, z⟩),
        fun h => (let ⟨x, y, z⟩ := i3 (q 3 (by decide) h); ⟨x, y, z⟩),
        fun h => i4 (q 4 (by decide) h),
        fun h => i5 (q 5 (by decide) h),
        fun h => i6 (q 6 (by decide) h),
        fun _ => rfl,
        fun h => (let ⟨x, y, z⟩ := i8 (q 8 (by decide) h); ⟨rfl, y, z⟩),
        fun _ => rfl,
        fun h h2 => i10 (q 1 (by decide) h) (q 2 (by decide) h2),
        fun h h2 => i11 (q 1 (by decide) h) (q 3 (by decide) h2),
        fun h h2 => i12 (q 1 (by decide) h) (q 8 (by decide) h2),
        fun h => (let ⟨y1, y2, y3, y4, y5, y6⟩ := j7 (q 7 (by decide) h); ⟨up 1 (by decide) y1, up 2 (by decide) y2, up 3 (by decide) y3, up 4 (by decide) y4, up 5 (by decide) y5, up 6 (by decide) y6⟩),
        fun h => up 7 (by decide) (j8 (q 8 (by decide) h)),
        fun _ => up 8 (by decide) d8⟩
  case stop =>
    intro listed x w' hall hI
    have t : ∀ j, j < 10 → lst listed j = true := fun j hj => hall j (by simpa using hj)
    obtain ⟨s, N, a, b, T, m, c, Q, rfl, hB, i0, i1, i2, i3, i4, i5, i6, i7, i8, i9, i10, i11, i12, j7, j8, j9⟩ := hI
    obtain ⟨e9, hN, a1, a2, a3⟩ := i1 (t 1 (by decide))
    obtain ⟨e10, hT, a4⟩ := i2 (t 2 (by decide))
    obtain ⟨e11, hm, a5⟩ := i3 (t 3 (by decide))
    obtain ⟨e16, hQ, a6⟩ := i8 (t 8 (by decide))
    have o1 := i10 (t 1 (by decide)) (t 2 (by decide))
    have o2 := i11 (t 1 (by decide)) (t 3 (by decide))
    have o3 := i12 (t 1 (by decide)) (t 8 (by decide))
    rw [i9 (t 9 (by decide)), i0 (t 0 (by decide)), e9, e10, e11, i4 (t 4 (by decide)), i5 (t 5 (by decide)), i6 (t 6 (by decide)), i7 (t 7 (by decide)), e16]
    clear i0 i1 i2 i3 i4 i5 i6 i7 i8 i9 i10 i11 i12 j7 j8 j9 e9 e10 e11 e16 t hall k0 k1 x0 x1 x2
    go_wp2
    obtain ⟨W, hW⟩ : ∃ W, W = w' := ⟨_, rfl⟩
    rw [← hW] at hB hN a3 hT hm hQ ⊢
    clear hW
    have lQ := hQ.lt
    have lT := hT.lt
    have lm := hm.lt
    have nQT := ne_rows hQ hT (by decide)
    have nQm := ne_map hQ hm
    refine wp_loop_rounds 3 ?_
    rw [rounds_succ]
    go_wp2
    have Su0 : Cs1 Q 1 (.slice none 0 0) W.drew := ⟨hQ.c1, trivial⟩
    (refine wp_region_leadT (Cs1 Q 1 (.slice none 0 0)) [6, 8, 9, 10, 11, 12] [0, 1, 2, 3, 4, 5, 6, 7, 8, 9, 10, 11, 12] 13 _ _ (by kernel_rfl) (by kernel_rfl) (by kernel_rfl) rfl (by simp only [List.filterMap_cons, List.getElem?_cons_zero, List.getElem?_cons_succ, Option.map_some, List.filterMap_nil]; rfl) rfl rfl Su0 ?_)
    have g0 := fun g : Wits (Cs1 Q 1 (.slice none 0 0)) => (Wits.is g).1
    (refine lead_quietB_n 6 rfl Su0 ?_); (intro _); (simp only [List.take_succ_cons, List.take_zero, List.drop_succ_cons, List.drop_zero, List.map_cons, List.map_nil]); (repeat (go_big_quiet_step (fail))); (refine wpQuiet_nil ?_)
    clear g0
    refine lead_one rfl ?_ Su0
    go_wp2_with (go_at_call 26; (with_reducible refine (newG_any _).mono ?_); rintro e ua ⟨ga, rfl, bua⟩)
    have Sua := Su0.below bua
    have zua : W.heap.size ≤ ua.heap.size := bua.size
    refine ⟨rfl, Sua, ?_⟩
    (refine lead_quietB_n 1 rfl Sua ?_); (intro _); (simp only [List.take_succ_cons, List.take_zero, List.drop_succ_cons, List.drop_zero, List.map_cons, List.map_nil]); (repeat (go_big_quiet_step (fail))); (refine wpQuiet_nil ?_)
    refine lead_one rfl ?_ Sua
    have bub : Below ua.heap.size ua (ua.alloc (.cells #[.int .i64 0, .int .i64 0, .bool false, .pointer (some ⟨ga, 0, none⟩), .bool false] 88)) := (Below.refl _ _).alloc (Nat.le_refl _) _
    have lub : LnkAt (ua.alloc (.cells #[.int .i64 0, .int .i64 0, .bool false, .pointer (some ⟨ga, 0, none⟩), .bool false] 88)) ua.heap.size ga false := heap_alloc_new _ _
    have zub : (ua.alloc (.cells #[.int .i64 0, .int .i64 0, .bool false, .pointer (some ⟨ga, 0, none⟩), .bool false] 88)).heap.size = ua.heap.size + 1 := by simp
    go_wp2
    obtain ⟨ub, hub⟩ : ∃ ub, ub = ua.alloc (.cells #[.int .i64 0, .int .i64 0, .bool false, .pointer (some ⟨ga, 0, none⟩), .bool false] 88) := ⟨_, rfl⟩
    rw [← hub] at bub lub zub ⊢
    clear hub
    obtain ⟨ka, hka⟩ : ∃ ka, ka = ua.heap.size := ⟨_, rfl⟩
    rw [← hka] at lub ⊢
    have zka : W.heap.size ≤ ka ∧ ka < ub.heap.size := by omega
    clear hka zub
    have Sub := Sua.below bub
    refine ⟨rfl, Sub, ?_⟩
    refine lead_one rfl ?_ Sub
    have buc : Below ub.heap.size ub (ub.alloc (.cells #[.pointer (some ⟨ka, 0, none⟩)] 84)) := (Below.refl _ _).alloc (Nat.le_refl _) _
    have zuc : (ub.alloc (.cells #[.pointer (some ⟨ka, 0, none⟩)] 84)).heap.size = ub.heap.size + 1 := by simp
    go_wp2
    have Suc := Sub.below buc
    refine ⟨rfl, Suc, ?_⟩
    refine lead_one rfl ?_ Suc
    go_wp2_with (refine wpList_append_lnk (base := ub.heap.size) (v := .slice none 0 0) (n := 0) (xs := []) (b := ub.heap.size) (g := ka) rfl _ _ rfl rfl (World.ownsRow_nil _ _ _ _) rfl (cell_top rfl rfl) (by omega) (by omega) ?_; intro v1 ud o1 g1; obtain ⟨L1, p1, rfl, l1⟩ := own_val (n := 1) o1 (by omega))
    have B1 : Below W.heap.size W ud := (Below.refl _ _).drew.trans (((bua.trans (bub.mono zua)).trans (buc.mono (by show W.heap.size ≤ _; omega))).trans ((below_grown g1 (fun k hk => by cases hk)).mono (by show W.heap.size ≤ _; omega)))
    have Pud := hQ.below B1
    have Sud : Cs1 Q 1 (.slice none 0 0) ud := ⟨Pud.c1, trivial⟩
    refine ⟨rfl, Sud, ?_⟩
    refine lead_one rfl ?_ Sud
    go_wp2
    refine ⟨rfl, Sud, ?_⟩
    refine lead_one rfl ?_ Sud
    go_wp2
    refine ⟨rfl, Sud, ?_⟩
    refine lead_nil ?_
    have fu := Pud.froz 1
    have nu := Pud.c1
    go_wp2
    refine ⟨rfl, ?_⟩
    go_wp2
    obtain ⟨V2, hV2⟩ : ∃ V2, V2 = ud.setCell ⟨Q, 1, none⟩ (.slice (some ⟨L1, 0, none⟩) 1 p1) := ⟨_, rfl⟩
    have C2 : ChgL (fun k => k = Q) W V2 := by rw [hV2]; exact (ChgL.of B1).trans (ChgL.chg ((Chg.refl Q ud).setCell 1 _) rfl)
    have P2 : PlnRow V2 Q N T m c (.slice (some ⟨L1, 0, none⟩) 1 p1) 0 0 0 0 0 0 0 := by rw [hV2]; exact Pud.sLs
    have zud : ub.heap.size ≤ ud.heap.size := by have := g1.size; omega
    have Lka : LnkAt ud ka ga false := (lub.below buc).below (below_grown g1 (fun k hk => by cases hk))
    have L2k : LnkAt V2 ka ga false := by rw [hV2]; exact (Below.heap_setCell ud ⟨Q, 1, none⟩ _ ka (show ka ≠ Q by omega)).trans Lka
    have o2 : V2.ownsRow ub.heap.size 84 1 (.slice (some ⟨L1, 0, none⟩) 1 p1) 1 [.pointer (some ⟨ka, 0, none⟩)] := by
      rw [hV2]
      exact World.ownsRow.kept o1 grown_set (.inr (by simp [Value.ownBlock]; omega))
    have z2 : ub.heap.size ≤ V2.heap.size ∧ L1 < V2.heap.size := by rw [hV2]; simp; omega
    rw [← hV2]
    clear hV2 o1 g1 Pud Sud fu nu Lka lub bua bub buc Su0 Sua Sub Suc B1 zud zuc
    rw [rounds_succ]
    go_wp2
    have Sv0 : Cs1 Q 1 (.slice (some ⟨L1, 0, none⟩) 1 p1) V2.drew := ⟨P2.c1, trivial⟩
    (refine wp_region_leadT (Cs1 Q 1 (.slice (some ⟨L1, 0, none⟩) 1 p1)) [6, 8, 9, 10, 11, 12] [0, 1, 2, 3, 4, 5, 6, 7, 8, 9, 10, 11, 12] 13 _ _ (by kernel_rfl) (by kernel_rfl) (by kernel_rfl) rfl (by simp only [List.filterMap_cons, List.getElem?_cons_zero, List.getElem?_cons_succ, Option.map_some, List.filterMap_nil]; rfl) rfl rfl Sv0 ?_)
    have g0 := fun g : Wits (Cs1 Q 1 (.slice (some ⟨L1, 0, none⟩) 1 p1)) => (Wits.is g).1
    (refine lead_quietB_n 6 rfl Sv0 ?_); (intro _); (simp only [List.take_succ_cons, List.take_zero, List.drop_succ_cons, List.drop_zero, List.map_cons, List.map_nil]); (repeat (go_big_quiet_step (fail))); (refine wpQuiet_nil ?_)
    clear g0
    refine lead_one rfl ?_ Sv0
    go_wp2_with (go_at_call 26; (with_reducible refine (newG_any _).mono ?_); rintro e va ⟨gb, rfl, bva⟩)
    have Sva := Sv0.below bva
    have zva : V2.heap.size ≤ va.heap.size := bva.size
    refine ⟨rfl, Sva, ?_⟩
    (refine lead_quietB_n 1 rfl Sva ?_); (intro _); (simp only [List.take_succ_cons, List.take_zero, List.drop_succ_cons, List.drop_zero, List.map_cons, List.map_nil]); (repeat (go_big_quiet_step (fail))); (refine wpQuiet_nil ?_)
    refine lead_one rfl ?_ Sva
    have bvb : Below va.heap.size va (va.alloc (.cells #[.int .i64 0, .int .i64 0, .bool false, .pointer (some ⟨gb, 0, none⟩), .bool false] 88)) := (Below.refl _ _).alloc (Nat.le_refl _) _
    have lvb : LnkAt (va.alloc (.cells #[.int .i64 0, .int .i64 0, .bool false, .pointer (some ⟨gb, 0, none⟩), .bool false] 88)) va.heap.size gb false := heap_alloc_new _ _
    have zvb : (va.alloc (.cells #[.int .i64 0, .int .i64 0, .bool false, .pointer (some ⟨gb, 0, none⟩), .bool false] 88)).heap.size = va.heap.size + 1 := by simp
    go_wp2
    obtain ⟨vb, hvb⟩ : ∃ vb, vb = va.alloc (.cells #[.int .i64 0, .int .i64 0, .bool false, .pointer (some ⟨gb, 0, none⟩), .bool false] 88) := ⟨_, rfl⟩
    rw [← hvb] at bvb lvb zvb ⊢
    clear hvb
    obtain ⟨kb, hkb⟩ : ∃ kb, kb = va.heap.size := ⟨_, rfl⟩
    rw [← hkb] at lvb ⊢
    have zkb : V2.heap.size ≤ kb ∧ kb < vb.heap.size := by omega
    clear hkb zvb
    have Svb := Sva.below bvb
    refine ⟨rfl, Svb, ?_⟩
    refine lead_one rfl ?_ Svb
    have bvc : Below vb.heap.size vb (vb.alloc (.cells #[.pointer (some ⟨kb, 0, none⟩)] 84)) := (Below.refl _ _).alloc (Nat.le_refl _) _
    have zvc : (vb.alloc (.cells #[.pointer (some ⟨kb, 0, none⟩)] 84)).heap.size = vb.heap.size + 1 := by simp
    go_wp2
    have Svc := Svb.below bvc
    refine ⟨rfl, Svc, ?_⟩
    refine lead_one rfl ?_ Svc
    have o3 := own_below (own_below (own_below o2.drew bva) bvb) bvc
    have hbs : ub.heap.size ≤ (vb.alloc (.cells #[.pointer (some ⟨kb, 0, none⟩)] 84)).heap.size := by omega
    go_wp2_with (refine wpList_append_lnk (base := ub.heap.size) (v := .slice (some ⟨L1, 0, none⟩) 1 p1) (n := 1) (xs := [.pointer (some ⟨ka, 0, none⟩)]) (b := vb.heap.size) (g := kb) rfl _ _ rfl rfl o3 rfl (cell_top rfl rfl) (by omega) hbs ?_; intro v2 vd o4 g2; obtain ⟨L2, p2, rfl, l2⟩ := own_val (n := 2) o4 (by omega))
    have eL : (Value.slice (some ⟨L1, 0, none⟩) 1 p1).ownBlock = some L1 := rfl
    have bvv : Below V2.heap.size V2 (vb.alloc (.cells #[.pointer (some ⟨kb, 0, none⟩)] 84)) := (Below.refl _ _).drew.trans ((bva.trans (bvb.mono zva)).trans (bvc.mono (by show V2.heap.size ≤ _; omega)))
    have C3 : ChgL (fun k => k = L1) V2 vd := (ChgL.of bvv).trans ⟨g2.os, g2.tape, g2.output, g2.size, fun k hk hn => g2.block k hk (by rw [eL]; simpa using hn)⟩
    have Pvd : PlnRow vd Q N T m c (.slice (some ⟨L1, 0, none⟩) 1 p1) 0 0 0 0 0 0 0 := (C3.block Q P2.lt (by show ¬ Q = L1; omega)).trans P2
    have Svd : Cs1 Q 1 (.slice (some ⟨L1, 0, none⟩) 1 p1) vd := ⟨Pvd.c1, trivial⟩
    refine ⟨rfl, Svd, ?_⟩
    refine lead_one rfl ?_ Svd
    go_wp2
    refine ⟨rfl, Svd, ?_⟩
    refine lead_one rfl ?_ Svd
    go_wp2
    refine ⟨rfl, Svd, ?_⟩
    refine lead_nil ?_
    have fv := Pvd.froz 1
    have nv := Pvd.c1
    go_wp2
    refine ⟨rfl, ?_⟩
    go_wp2
    rw [rounds_succ]
    go_wp2
    go_ret
    have k0 : vd.cell? ⟨L2, 0, none⟩ = some (.pointer (some ⟨ka, 0, none⟩)) := World.ownsRow.cellAt o4 0 (by omega)
    have zW := C2.size
    have zd : V2.heap.size ≤ vd.heap.size := C3.size
    obtain ⟨X, hX⟩ : ∃ X, X = vd.setCell ⟨Q, 1, none⟩ (.slice (some ⟨L2, 0, none⟩) 2 p2) := ⟨_, rfl⟩
    have sX : X.heap.size = vd.heap.size := by rw [hX]; simp
    have CX : ChgL (fun k => k = Q ∨ k = L1) V2 X := by rw [hX]; exact (C3.mono (fun k hk => .inr hk)).trans (ChgL.chg ((Chg.refl Q vd).setCell 1 _) (.inl rfl))
    have CW : ChgL (fun k => k = Q ∨ k = L1) W X := (C2.mono (fun k hk => .inl hk)).trans CX
    have zB := hB.size
    have zV := BV.size
    have BX : Below w.heap.size w X := (BV.trans (hB.mono zV)).trans (CW.below (fun k hk => by omega) (by omega))
    have PX : PlnRow X Q N T m c (.slice (some ⟨L2, 0, none⟩) 2 p2) 0 0 0 0 0 0 0 := by rw [hX]; exact Pvd.sLs
    have kX : X.cell? ⟨L2, 0, none⟩ = some (.pointer (some ⟨ka, 0, none⟩)) := by rw [hX]; exact cell_beside (by omega) k0
    rw [← hX]
    refine ⟨Q, rfl, ⟨N, T, m, c, L2, p2, ka, ga, a, b, PX, kX, (CX.block ka L2k.lt (by omega)).trans L2k, (CW.block T hT.lt (by omega)).trans hT, (CW.block m hm.lt (by omega)).trans hm, hN.other CW (fun k hk => by omega), ?_⟩, BX⟩
    unfold Out at *
    omega
end Go.Proofs.YtaoagbnhomjkpaaGreat

/- plane: small functions; what is open. -/
namespace Go.Proofs.YtaoagbnhomjkpaaGreat
set_option linter.unusedVariables false
set_option linter.unusedSimpArgs false
open Go.RowKit
set_option maxRecDepth 100000
set_option maxHeartbeats 4000000
theorem linked_yes (Q N T W cm L cap : Nat) (nx now sp id pa ta dr : Int) (w : World) (h : PlnRow w Q N T W cm (.slice (some ⟨L, 0, none⟩) 2 cap) nx now sp id pa ta dr) :
    Calls Tryz.prog 27 #[.pointer (some ⟨Q, 0, none⟩), .int .i64 0] w fun e w' => e = .returned (.bool true) ∧ w = w' := by
  have c1 := h.c1
  go_enter Tryz.func27, Tryz.ntmps27
  go_wp2
  go_ret
  exact ⟨rfl, rfl⟩
theorem undW : Tryz.prog.underlying 79 = some (.map 3 91) := by kernel_rfl
theorem zerW (w : World) : (zeroValue 91).run Tryz.prog w = .ok (.pointer none) w := by kernel_rfl
theorem findP_in0 (Q N T W cm : Nat) (ls : Value) (nx now sp id pa ta dr : Int) (w : World) (h : PlnRow w Q N T W cm ls nx now sp id pa ta dr) (hT : TabAt w T tab0) (hW : M0 w W) :
    Calls Tryz.prog 29 #[.pointer (some ⟨Q, 0, none⟩), .agg #[.int .i64 0, .int .i64 0, .int .i64 40]] w fun en w' => en = .returned (.tuple #[.pointer none, .bool false]) ∧ Below w.heap.size w w' := by
  have B : Below w.heap.size w (w.alloc (.cells #[.int .i64 0, .int .i64 0, .int .i64 40] 29)) := (Below.refl _ _).alloc (Nat.le_refl _) _
  go_enter Tryz.func29, Tryz.ntmps29
  go_wp2
  obtain ⟨V, hV⟩ : ∃ V, V = w.alloc (.cells #[.int .i64 0, .int .i64 0, .int .i64 40] 29) := ⟨_, rfl⟩
  rw [← hV] at B
  have X : Cs4 Q 2 (.pointer (some ⟨T, 0, none⟩)) w.heap.size 0 (.int .i64 0) w.heap.size 1 (.int .i64 0) w.heap.size 2 (.int .i64 40) V.drew := by
    refine ⟨(h.below B).c2, ?_, ?_, ?_, trivial⟩ <;> (rw [hV]; exact cell_top rfl rfl)
  rw [← hV]
  clear hV
  obtain ⟨K, hK⟩ : ∃ K, K = w.heap.size := ⟨_, rfl⟩
  rw [← hK] at X ⊢
  clear hK
  (refine wp_region_lead (Cs4 Q 2 (.pointer (some ⟨T, 0, none⟩)) K 0 (.int .i64 0) K 1 (.int .i64 0) K 2 (.int .i64 40)) [5] [0, 1, 2, 3, 4, 5, 6, 7, 8, 9, 10] _ (by kernel_rfl) (by kernel_rfl) (by kernel_rfl) (by simp only [List.filterMap_cons, List.getElem?_cons_zero, List.getElem?_cons_succ, Option.map_some, List.filterMap_nil]; rfl) rfl rfl X ?_)
  have e0 := fun g : Wits (Cs4 Q 2 (.pointer (some ⟨T, 0, none⟩)) K 0 (.int .i64 0) K 1 (.int .i64 0) K 2 (.int .i64 40)) => (Wits.is g).1
  have e1 := fun g : Wits (Cs4 Q 2 (.pointer (some ⟨T, 0, none⟩)) K 0 (.int .i64 0) K 1 (.int .i64 0) K 2 (.int .i64 40)) => (Wits.is g).2.1
  have e2 := fun g : Wits (Cs4 Q 2 (.pointer (some ⟨T, 0, none⟩)) K 0 (.int .i64 0) K 1 (.int .i64 0) K 2 (.int .i64 40)) => (Wits.is g).2.2.1
  have e3 := fun g : Wits (Cs4 Q 2 (.pointer (some ⟨T, 0, none⟩)) K 0 (.int .i64 0) K 1 (.int .i64 0) K 2 (.int .i64 40)) => (Wits.is g).2.2.2.1
  (refine lead_quietB_n 5 rfl X ?_); (intro _); (simp only [List.take_succ_cons, List.take_zero, List.drop_succ_cons, List.drop_zero, List.map_cons, List.map_nil]); (repeat (go_big_quiet_step (fail))); (refine wpQuiet_nil ?_)
  clear e0 e1 e2 e3
  refine lead_one rfl ?_ X
  go_wp2_with (go_at_call 50; (with_reducible refine (get_in0 T _ (hT.below B.drew)).mono ?_); rintro en w2 ⟨rfl, b2⟩)
  have X2 := X.below b2
  have B2 : Below w.heap.size w w2 := B.drew.trans (b2.mono B.drew.size)
  refine ⟨rfl, X2, ?_⟩
  (refine lead_quietB_n 5 rfl X2 ?_); (intro _); (simp only [List.take_succ_cons, List.take_zero, List.drop_succ_cons, List.drop_zero, List.map_cons, List.map_nil]); (repeat (go_big_quiet_step (fail))); (refine wpQuiet_nil ?_)
  refine lead_nil ?_
  have c3 := (h.below B2).c3
  have hl : (Instr.lookup 79 (.map (some W)) (.int .i64 0) false).run Tryz.prog w2 = .ok (.pointer none) w2 := look0 false 0 undW undI (zerW w2) (hW.below B2)
  go_wp2
  go_ret2
  exact ⟨rfl, B2⟩
theorem findP_in1 (Q N T W cm y : Nat) (ls : Value) (nx now sp id pa ta dr : Int) (w : World) (h : PlnRow w Q N T W cm ls nx now sp id pa ta dr) (hT : TabAt w T tabI) (hW : M1 w W (.pointer (some ⟨y, 0, none⟩))) :
    Calls Tryz.prog 29 #[.pointer (some ⟨Q, 0, none⟩), .agg #[.int .i64 0, .int .i64 0, .int .i64 40]] w fun en w' => en = .returned (.tuple #[.pointer (some ⟨y, 0, none⟩), .bool true]) ∧ Below w.heap.size w w' := by
  have B : Below w.heap.size w (w.alloc (.cells #[.int .i64 0, .int .i64 0, .int .i64 40] 29)) := (Below.refl _ _).alloc (Nat.le_refl _) _
  go_enter Tryz.func29, Tryz.ntmps29
  go_wp2
  obtain ⟨V, hV⟩ : ∃ V, V = w.alloc (.cells #[.int .i64 0, .int .i64 0, .int .i64 40] 29) := ⟨_, rfl⟩
  rw [← hV] at B
  have X : Cs4 Q 2 (.pointer (some ⟨T, 0, none⟩)) w.heap.size 0 (.int .i64 0) w.heap.size 1 (.int .i64 0) w.heap.size 2 (.int .i64 40) V.drew := by
    refine ⟨(h.below B).c2, ?_, ?_, ?_, trivial⟩ <;> (rw [hV]; exact cell_top rfl rfl)
  rw [← hV]
  clear hV
  obtain ⟨K, hK⟩ : ∃ K, K = w.heap.size := ⟨_, rfl⟩
  rw [← hK] at X ⊢
  clear hK
  (refine wp_region_lead (Cs4 Q 2 (.pointer (some ⟨T, 0, none⟩)) K 0 (.int .i64 0) K 1 (.int .i64 0) K 2 (.int .i64 40)) [5] [0, 1, 2, 3, 4, 5, 6, 7, 8, 9, 10] _ (by kernel_rfl) (by kernel_rfl) (by kernel_rfl) (by simp only [List.filterMap_cons, List.getElem?_cons_zero, List.getElem?_cons_succ, Option.map_some, List.filterMap_nil]; rfl) rfl rfl X ?_)
  have e0 := fun g : Wits (Cs4 Q 2 (.pointer (some ⟨T, 0, none⟩)) K 0 (.int .i64 0) K 1 (.int .i64 0) K 2 (.int .i64 40)) => (Wits.is g).1
  have e1 := fun g : Wits (Cs4 Q 2 (.pointer (some ⟨T, 0, none⟩)) K 0 (.int .i64 0) K 1 (.int .i64 0) K 2 (.int .i64 40)) => (Wits.is g).2.1
  have e2 := fun g : Wits (Cs4 Q 2 (.pointer (some ⟨T, 0, none⟩)) K 0 (.int .i64 0) K 1 (.int .i64 0) K 2 (.int .i64 40)) => (Wits.is g).2.2.1
  have e3 := fun g : Wits (Cs4 Q 2 (.pointer (some ⟨T, 0, none⟩)) K 0 (.int .i64 0) K 1 (.int .i64 0) K 2 (.int .i64 40)) => (Wits.is g).2.2.2.1
  (refine lead_quietB_n 5 rfl X ?_); (intro _); (simp only [List.take_succ_cons, List.take_zero, List.drop_succ_cons, List.drop_zero, List.map_cons, List.map_nil]); (repeat (go_big_quiet_step (fail))); (refine wpQuiet_nil ?_)
  clear e0 e1 e2 e3
  refine lead_one rfl ?_ X
  go_wp2_with (go_at_call 50; (with_reducible refine (get_in1 T _ (hT.below B.drew)).mono ?_); rintro en w2 ⟨rfl, b2⟩)
  have X2 := X.below b2
  have B2 : Below w.heap.size w w2 := B.drew.trans (b2.mono B.drew.size)
  refine ⟨rfl, X2, ?_⟩
  (refine lead_quietB_n 5 rfl X2 ?_); (intro _); (simp only [List.take_succ_cons, List.take_zero, List.drop_succ_cons, List.drop_zero, List.map_cons, List.map_nil]); (repeat (go_big_quiet_step (fail))); (refine wpQuiet_nil ?_)
  refine lead_nil ?_
  have c3 := (h.below B2).c3
  have hl : (Instr.lookup 79 (.map (some W)) (.int .i64 0) false).run Tryz.prog w2 = .ok (.pointer (some ⟨y, 0, none⟩)) w2 := look1 false undW undI (hW.below B2)
  go_wp2
  go_ret2
  exact ⟨rfl, B2⟩
end Go.Proofs.YtaoagbnhomjkpaaGreat

/- plane: a way is opened. -/
namespace Go.Proofs.YtaoagbnhomjkpaaGreat
set_option linter.unusedVariables false
set_option linter.unusedSimpArgs false
open Go.RowKit
set_option maxRecDepth 100000
set_option maxHeartbeats 4000000
/-- a way's block. -/
def WayAt (w : World) (y A : Nat) : Prop := w.heap[y]? = some (.cells #[.int .i64 0, .int .i64 0, .int .i64 40, .int .i64 1, .int .i64 0, .int .i64 50, .pointer (some ⟨A, 0, none⟩), .bool false] 99)
theorem WayAt.lt {w : World} {y A : Nat} (h : WayAt w y A) : y < w.heap.size := (Array.getElem?_eq_some_iff.1 h).1
theorem WayAt.below {w w' : World} {y A : Nat} (h : WayAt w y A) (hb : Below w.heap.size w w') : WayAt w' y A := (hb.block y h.lt).trans h
theorem WayAt.cells {w : World} {y A : Nat} (h : WayAt w y A) : w.cell? ⟨y, 3, none⟩ = some (.int .i64 1) ∧ w.cell? ⟨y, 4, none⟩ = some (.int .i64 0) ∧ w.cell? ⟨y, 5, none⟩ = some (.int .i64 50) ∧ w.cell? ⟨y, 6, none⟩ = some (.pointer (some ⟨A, 0, none⟩)) :=
  ⟨cell_of_row w y 3 _ _ _ h, cell_of_row w y 4 _ _ _ h, cell_of_row w y 5 _ _ _ h, cell_of_row w y 6 _ _ _ h⟩
/-- a switch with the way open, its blocks named. -/
def PlAt (lo hi Q N T W cm L cap K y A a b pl ph : Nat) (cz : Pz) (S : S4) (c0 c1 c2 c3 : Int) (rr rd : Int) (rc : Bool) (now sp id pa ta dr : Int) (w : World) : Prop :=
  PlnRow w Q N T W cm (.slice (some ⟨L, 0, none⟩) 2 cap) 1 now sp id pa ta dr ∧ w.cell? ⟨L, 0, none⟩ = some (.pointer (some ⟨K, 0, none⟩)) ∧ RecAt w K rr rd rc ∧ TabAt w T tabI ∧ M1 w W (.pointer (some ⟨y, 0, none⟩)) ∧ WayAt w y A ∧ AlmAt w A ∧ Nod1 (NO a b pl ph) N cz S c0 c1 c2 c3 w ∧
  (lo ≤ Q ∧ Q < hi) ∧ (lo ≤ T ∧ T < hi) ∧ (lo ≤ W ∧ W < hi) ∧ (lo ≤ L ∧ L < hi) ∧ (lo ≤ K ∧ K < hi) ∧ (lo ≤ y ∧ y < hi) ∧ (lo ≤ A ∧ A < hi) ∧ (lo ≤ a ∧ a ≤ b ∧ b ≤ hi) ∧ (lo ≤ pl ∧ pl ≤ ph ∧ ph ≤ hi) ∧
  (Out a b Q ∧ Out a b T ∧ Out a b W ∧ Out a b L ∧ Out a b K ∧ Out a b y ∧ Out a b A) ∧ (Out pl ph Q ∧ Out pl ph T ∧ Out pl ph W ∧ Out pl ph L ∧ Out pl ph K ∧ Out pl ph y ∧ Out pl ph A) ∧
  (Q ≠ K ∧ Q ≠ A ∧ K ≠ A) ∧ (T ≠ Q ∧ T ≠ K ∧ T ≠ A) ∧ (W ≠ Q ∧ W ≠ K ∧ W ≠ A) ∧ (L ≠ Q ∧ L ≠ K ∧ L ≠ A) ∧ (y ≠ Q ∧ y ≠ K ∧ y ≠ A)
/-- what may turn when a cell comes. -/
def Mv (Q K A a b pl ph : Nat) (j : Nat) : Prop := j = Q ∨ j = K ∨ j = A ∨ NO a b pl ph j
/-- a switch with the way open. -/
def Pln1 (lo hi Q : Nat) (cz : Pz) (S : S4) (c0 c1 c2 c3 : Int) (rr rd : Int) (rc : Bool) (now sp id pa ta dr : Int) (w : World) : Prop := ∃ N T W cm L cap K y A a b pl ph, PlAt lo hi Q N T W cm L cap K y A a b pl ph cz S c0 c1 c2 c3 rr rd rc now sp id pa ta dr w
/-- all of its blocks. -/
def Bk (Q K A a b pl ph T W L y : Nat) (j : Nat) : Prop := Mv Q K A a b pl ph j ∨ j = T ∨ j = W ∨ j = L ∨ j = y
/-- .. that leaves an interval of blocks alone. -/
def Pln1H (x1 x2 : Nat) (lo hi Q : Nat) (cz : Pz) (S : S4) (c0 c1 c2 c3 : Int) (rr rd : Int) (rc : Bool) (now sp id pa ta dr : Int) (w : World) : Prop := ∃ N T W cm L cap K y A a b pl ph, PlAt lo hi Q N T W cm L cap K y A a b pl ph cz S c0 c1 c2 c3 rr rd rc now sp id pa ta dr w ∧ ∀ j, Bk Q K A a b pl ph T W L y j → Out x1 x2 j
theorem Pln1H.out {x1 x2 lo hi Q : Nat} {cz : Pz} {S : S4} {c0 c1 c2 c3 rr rd : Int} {rc : Bool} {now sp id pa ta dr : Int} {w : World} (h : Pln1H x1 x2 lo hi Q cz S c0 c1 c2 c3 rr rd rc now sp id pa ta dr w) : Pln1 lo hi Q cz S c0 c1 c2 c3 rr rd rc now sp id pa ta dr w := by
  obtain ⟨N, T, W, cm, L, cap, K, y, A, a, b, pl, ph, hP, _⟩ := h
  exact ⟨N, T, W, cm, L, cap, K, y, A, a, b, pl, ph, hP⟩
/-- the boxes of Open. -/
def OB (K1 K2 C : Nat) (k p e wh b l : Int) (w : World) : Prop := (w.cell? ⟨K1, 0, none⟩ = some (.int .i64 0) ∧ w.cell? ⟨K1, 1, none⟩ = some (.int .i64 0) ∧ w.cell? ⟨K1, 2, none⟩ = some (.int .i64 40)) ∧ KC K2 C 1 0 50 k p e wh b l w
theorem OB.below {K1 K2 C : Nat} {k p e wh b l : Int} {w w' : World} (h : OB K1 K2 C k p e wh b l w) (hb : Below w.heap.size w w') : OB K1 K2 C k p e wh b l w' :=
  ⟨⟨cell_keep hb h.1.1, cell_keep hb h.1.2.1, cell_keep hb h.1.2.2⟩, h.2.below hb⟩
theorem OB.chg {s : Nat → Prop} {K1 K2 C : Nat} {k p e wh b l : Int} {w w' : World} (h : OB K1 K2 C k p e wh b l w) (hc : ChgL s w w') (h0 : ¬ s K1) (h1 : ¬ s K2) (h2 : ¬ s C) : OB K1 K2 C k p e wh b l w' := by
  have q : ∀ {b o : Nat} {v : Value}, ¬ s b → w.cell? ⟨b, o, none⟩ = some v → w'.cell? ⟨b, o, none⟩ = some v := fun hb hv =>
    (World.cell?_of_block (w := w) (hc.block _ (World.block_lt_of_cell? w _ hv) hb)).trans hv
  exact ⟨⟨q h0 h.1.1, q h0 h.1.2.1, q h0 h.1.2.2⟩, h.2.chg hc h1 h2⟩
theorem ob_new (w : World) (k p e wh b l : Int) (T T' : TypeId) : OB w.heap.size (w.heap.size + 1) (w.heap.size + 2) k p e wh b l (((w.alloc (.cells #[.int .i64 0, .int .i64 0, .int .i64 40] T)).alloc (.cells #[.int .i64 1, .int .i64 0, .int .i64 50] T)).alloc (.cells #[.int .i64 k, .int .i64 p, .int .i64 e, .int .i64 wh, .int .i64 b, .int .i64 l] T')) := by
  have s1 : (w.alloc (.cells #[.int .i64 0, .int .i64 0, .int .i64 40] T)).heap.size = w.heap.size + 1 := by simp
  have h := kc_new (w.alloc (.cells #[.int .i64 0, .int .i64 0, .int .i64 40] T)) 1 0 50 k p e wh b l T T'
  rw [s1] at h
  have B := below2 (w.alloc (.cells #[.int .i64 0, .int .i64 0, .int .i64 40] T)) (.cells #[.int .i64 1, .int .i64 0, .int .i64 50] T) (.cells #[.int .i64 k, .int .i64 p, .int .i64 e, .int .i64 wh, .int .i64 b, .int .i64 l] T')
  exact ⟨⟨cell_keep B (cell_top rfl rfl), cell_keep B (cell_top rfl rfl), cell_keep B (cell_top rfl rfl)⟩, h⟩
theorem below3 (w : World) (o o' o'' : Obj) : Below w.heap.size w (((w.alloc o).alloc o').alloc o'') := (((Below.refl _ _).alloc (Nat.le_refl _) o).alloc (by simp) o').alloc (by simp; omega) o''
def OQ (Q N T W cm : Nat) (ls : Value) (K1 K2 C : Nat) (k p e wh b l : Int) (w : World) : Prop := PlnRow w Q N T W cm ls 0 0 0 0 0 0 0 ∧ OB K1 K2 C k p e wh b l w
theorem OQ.below {Q N T W cm : Nat} {ls : Value} {K1 K2 C : Nat} {k p e wh b l : Int} {w w' : World} (h : OQ Q N T W cm ls K1 K2 C k p e wh b l w) (hb : Below w.heap.size w w') : OQ Q N T W cm ls K1 K2 C k p e wh b l w' := ⟨h.1.below hb, h.2.below hb⟩
theorem OQ.chg {s : Nat → Prop} {Q N T W cm : Nat} {ls : Value} {K1 K2 C : Nat} {k p e wh b l : Int} {w w' : World} (h : OQ Q N T W cm ls K1 K2 C k p e wh b l w) (hc : ChgL s w w') (h3 : ¬ s Q) (h0 : ¬ s K1) (h1 : ¬ s K2) (h2 : ¬ s C) : OQ Q N T W cm ls K1 K2 C k p e wh b l w' :=
  ⟨(hc.block Q h.1.lt h3).trans h.1, h.2.chg hc h0 h1 h2⟩
def SD (S : World → Prop) (y A L K : Nat) (w : World) : Prop := S w ∧ w.cell? ⟨y, 6, none⟩ = some (.pointer (some ⟨A, 0, none⟩)) ∧ w.cell? ⟨L, 0, none⟩ = some (.pointer (some ⟨K, 0, none⟩)) ∧ w.cell? ⟨K, 4, none⟩ = some (.bool false) ∧ True
theorem ChgL.cutN {s s' : Nat → Prop} {w w1 w2 : World} (h : ChgL s w w1) (k : ChgL s' w1 w2) (hs : ∀ j, j < w.heap.size → s' j → s j) : ChgL s w w2 :=
  ⟨k.os.trans h.os, k.tape.trans h.tape, k.output.trans h.output, Nat.le_trans h.size k.size, fun j hj hn => (k.block j (Nat.lt_of_lt_of_le hj h.size) (fun e => hn (hs j hj e))).trans (h.block j hj hn)⟩
theorem mv_out {Q K A a b pl ph T W L y x1 x2 : Nat} (h1 : Q < x1) (h2 : K < x1) (h3 : x2 ≤ A) (h4 : x2 ≤ pl) (h5 : b ≤ x1) (h6 : T < x1) (h7 : W < x1) (h8 : L < x1) (h9 : x2 ≤ y) (j : Nat) (hj : Bk Q K A a b pl ph T W L y j) : Out x1 x2 j := by
  unfold Bk Mv NO at hj
  unfold Out
  rcases hj with (rfl | rfl | rfl | hj | hj) | rfl | rfl | rfl | rfl
  · exact .inl h1
  · exact .inl h2
  · exact .inr h3
  · omega
  · omega
  · exact .inl h6
  · exact .inl h7
  · exact .inl h8
  · exact .inr h9
theorem open_bad (lo hi Q : Nat) (r k p e wh b l : Int) (w : World) (h : Pln0 lo hi Q r w) (hr : rightZ k p e wh b l ≠ 0) :
    Calls Tryz.prog 9 #[.pointer (some ⟨Q, 0, none⟩), .agg #[.int .i64 0, .int .i64 0, .int .i64 40], .agg #[.int .i64 1, .int .i64 0, .int .i64 50], .agg #[.int .i64 k, .int .i64 p, .int .i64 e, .int .i64 wh, .int .i64 b, .int .i64 l]] w fun en w' => en = .returned (.int .i64 73) ∧ Below w.heap.size w w' := by
  obtain ⟨N, T, W, cm, L, cap, Kl, gp, a, bb, hQ, hL, hK, hT, hW, hN, _⟩ := h
  have X := ob_new w k p e wh b l 29 23
  have B := below3 w (.cells #[.int .i64 0, .int .i64 0, .int .i64 40] 29) (.cells #[.int .i64 1, .int .i64 0, .int .i64 50] 29) (.cells #[.int .i64 k, .int .i64 p, .int .i64 e, .int .i64 wh, .int .i64 b, .int .i64 l] 23)
  obtain ⟨⟨x0, x1, x2⟩, x3, x4, x5, y0, y1, y2, y3, y4, y5, _⟩ := id X
  go_enter Tryz.func9, Tryz.ntmps9
  go_wp2_with (first
    | (go_at_call 27; (with_reducible refine (linked_yes Q N T W cm L cap 0 0 0 0 0 0 0 _ (hQ.below B)).mono ?_); rintro en w0 ⟨rfl, rfl⟩)
    | (go_at_call 28; (with_reducible refine (right_in _).mono ?_); rintro en w1 ⟨rfl, b1⟩; have X1 := X.below b1; have B1 := B.trans (b1.mono B.size); clear x0 x1 x2 x3 x4 x5 y0 y1 y2 y3 y4 y5; obtain ⟨⟨x0, x1, x2⟩, x3, x4, x5, y0, y1, y2, y3, y4, y5, _⟩ := id X1)
    | (go_at_call 29; (with_reducible refine (findP_in0 Q N T W cm _ 0 0 0 0 0 0 0 _ (hQ.below B1) (hT.below B1) (hW.below B1)).mono ?_); rintro en w2 ⟨rfl, b2⟩; have X2 := X1.below b2; have B2 := B1.trans (b2.mono B1.size); clear x0 x1 x2 x3 x4 x5 y0 y1 y2 y3 y4 y5))
  obtain ⟨K1, hK1⟩ : ∃ K1, K1 = w.heap.size := ⟨_, rfl⟩
  obtain ⟨K2, hK2⟩ : ∃ K2, K2 = w.heap.size + 1 := ⟨_, rfl⟩
  obtain ⟨C, hC⟩ : ∃ C, C = w.heap.size + 2 := ⟨_, rfl⟩
  rw [← hC, ← hK2, ← hK1] at X2 ⊢
  have kK : w.heap.size ≤ K1 ∧ w.heap.size ≤ K2 ∧ w.heap.size ≤ C := by omega
  have kK2 : K1 < w2.heap.size ∧ K2 < w2.heap.size ∧ C < w2.heap.size := ⟨World.block_lt_of_cell? _ _ X2.1.1, World.block_lt_of_cell? _ _ X2.2.1, World.block_lt_of_cell? _ _ X2.2.2.2.2.1⟩
  clear hC hK2 hK1 X X1 B b1 b2
  have Q2 := hQ.below B2
  have S0 : OQ Q N T W cm (.slice (some ⟨L, 0, none⟩) 2 cap) K1 K2 C k p e wh b l w2.drew := ⟨Q2, X2⟩
  (refine wp_region_lead (OQ Q N T W cm (.slice (some ⟨L, 0, none⟩) 2 cap) K1 K2 C k p e wh b l) [6] [0, 1, 2, 3, 4, 5, 6, 7] _ (by kernel_rfl) (by kernel_rfl) (by kernel_rfl) (by simp only [List.filterMap_cons, List.getElem?_cons_zero, List.getElem?_cons_succ, Option.map_some, List.filterMap_nil]; rfl) rfl rfl S0 ?_)
  have e0 : ∀ g : Wits (OQ Q N T W cm (.slice (some ⟨L, 0, none⟩) 2 cap) K1 K2 C k p e wh b l), g.w.cell? ⟨Q, 0, none⟩ = some (.pointer (some ⟨N, 0, none⟩)) := fun g => (Wits.is g).1.c0
  have e1 : ∀ g : Wits (OQ Q N T W cm (.slice (some ⟨L, 0, none⟩) 2 cap) K1 K2 C k p e wh b l), g.w.cell? ⟨K2, 0, none⟩ = some (.int .i64 1) := fun g => (Wits.is g).2.2.1
  have e2 : ∀ g : Wits (OQ Q N T W cm (.slice (some ⟨L, 0, none⟩) 2 cap) K1 K2 C k p e wh b l), g.w.cell? ⟨K2, 1, none⟩ = some (.int .i64 0) := fun g => (Wits.is g).2.2.2.1
  have e3 : ∀ g : Wits (OQ Q N T W cm (.slice (some ⟨L, 0, none⟩) 2 cap) K1 K2 C k p e wh b l), g.w.cell? ⟨K2, 2, none⟩ = some (.int .i64 50) := fun g => (Wits.is g).2.2.2.2.1
  have e4 : ∀ g : Wits (OQ Q N T W cm (.slice (some ⟨L, 0, none⟩) 2 cap) K1 K2 C k p e wh b l), g.w.cell? ⟨C, 0, none⟩ = some (.int .i64 k) := fun g => (Wits.is g).2.2.2.2.2.1
  have e5 : ∀ g : Wits (OQ Q N T W cm (.slice (some ⟨L, 0, none⟩) 2 cap) K1 K2 C k p e wh b l), g.w.cell? ⟨C, 1, none⟩ = some (.int .i64 p) := fun g => (Wits.is g).2.2.2.2.2.2.1
  have e6 : ∀ g : Wits (OQ Q N T W cm (.slice (some ⟨L, 0, none⟩) 2 cap) K1 K2 C k p e wh b l), g.w.cell? ⟨C, 2, none⟩ = some (.int .i64 e) := fun g => (Wits.is g).2.2.2.2.2.2.2.1
  have e7 : ∀ g : Wits (OQ Q N T W cm (.slice (some ⟨L, 0, none⟩) 2 cap) K1 K2 C k p e wh b l), g.w.cell? ⟨C, 3, none⟩ = some (.int .i64 wh) := fun g => (Wits.is g).2.2.2.2.2.2.2.2.1
  have e8 : ∀ g : Wits (OQ Q N T W cm (.slice (some ⟨L, 0, none⟩) 2 cap) K1 K2 C k p e wh b l), g.w.cell? ⟨C, 4, none⟩ = some (.int .i64 b) := fun g => (Wits.is g).2.2.2.2.2.2.2.2.2.1
  have e9 : ∀ g : Wits (OQ Q N T W cm (.slice (some ⟨L, 0, none⟩) 2 cap) K1 K2 C k p e wh b l), g.w.cell? ⟨C, 5, none⟩ = some (.int .i64 l) := fun g => (Wits.is g).2.2.2.2.2.2.2.2.2.2.1
  (refine lead_quietB_n 6 rfl S0 ?_); (intro _); (simp only [List.take_succ_cons, List.take_zero, List.drop_succ_cons, List.drop_zero, List.map_cons, List.map_nil]); (repeat (go_big_quiet_step (fail))); (refine wpQuiet_nil ?_)
  clear e0 e1 e2 e3 e4 e5 e6 e7 e8 e9
  refine lead_one rfl ?_ S0
  have N2 : Nod0 a bb N r w2.drew := hN.below B2.drew
  go_wp2_with (go_at_call 30; (with_reducible refine (take_bad a bb N r k p e wh b l _ N2 hr).mono ?_); rintro en w3 ⟨rfl, b3⟩)
  have S3 := S0.below b3
  have B3 : Below w.heap.size w w3 := B2.drew.trans (b3.mono B2.drew.size)
  refine ⟨rfl, S3, ?_⟩
  (refine lead_quietB_n 1 rfl S3 ?_); (intro _); (simp only [List.take_succ_cons, List.take_zero, List.drop_succ_cons, List.drop_zero, List.map_cons, List.map_nil]); (repeat (go_big_quiet_step (fail))); (refine wpQuiet_nil ?_)
  refine lead_nil ?_
  go_wp2
  go_ret
  exact ⟨rfl, B3⟩
theorem open_okH (lo hi Q : Nat) (r k p e wh b l : Int) (w : World) (h : Pln0 lo hi Q r w) (hhi : hi ≤ w.heap.size) (r0 : 0 ≤ r) (r1 : r ≤ 1152921504606846976) (hr : rightZ k p e wh b l = 0) (hn : needZ k p e wh b l ≤ r) (hn0 : 0 ≤ needZ k p e wh b l) :
    Calls Tryz.prog 9 #[.pointer (some ⟨Q, 0, none⟩), .agg #[.int .i64 0, .int .i64 0, .int .i64 40], .agg #[.int .i64 1, .int .i64 0, .int .i64 50], .agg #[.int .i64 k, .int .i64 p, .int .i64 e, .int .i64 wh, .int .i64 b, .int .i64 l]] w fun en w' => en = .returned (.int .i64 0) ∧ Pln1H hi w.heap.size lo w'.heap.size Q (pzOf k p e wh b) S4.zero 0 0 0 0 0 0 false 0 0 0 0 0 0 w' ∧ ChgL (fun j => lo ≤ j ∧ j < hi) w w' := by
  obtain ⟨N, T, W, cm, L, cap, Kl, gp, a, bb, hQ, hL, hK, hT, hW, hN, dQ, dT, dW, dL, dK, da, dab, db, oQ, oT, oW, oL, oK, n1, n2, n3, n4⟩ := h
  have X := ob_new w k p e wh b l 29 23
  have B := below3 w (.cells #[.int .i64 0, .int .i64 0, .int .i64 40] 29) (.cells #[.int .i64 1, .int .i64 0, .int .i64 50] 29) (.cells #[.int .i64 k, .int .i64 p, .int .i64 e, .int .i64 wh, .int .i64 b, .int .i64 l] 23)
  obtain ⟨⟨x0, x1, x2⟩, x3, x4, x5, y0, y1, y2, y3, y4, y5, _⟩ := id X
  go_enter Tryz.func9, Tryz.ntmps9
  go_wp2_with (first
    | (go_at_call 27; (with_reducible refine (linked_yes Q N T W cm L cap 0 0 0 0 0 0 0 _ (hQ.below B)).mono ?_); rintro en w0 ⟨rfl, rfl⟩)
    | (go_at_call 28; (with_reducible refine (right_in _).mono ?_); rintro en w1 ⟨rfl, b1⟩; have X1 := X.below b1; have B1 := B.trans (b1.mono B.size); clear x0 x1 x2 x3 x4 x5 y0 y1 y2 y3 y4 y5; obtain ⟨⟨x0, x1, x2⟩, x3, x4, x5, y0, y1, y2, y3, y4, y5, _⟩ := id X1)
    | (go_at_call 29; (with_reducible refine (findP_in0 Q N T W cm _ 0 0 0 0 0 0 0 _ (hQ.below B1) (hT.below B1) (hW.below B1)).mono ?_); rintro en w2 ⟨rfl, b2⟩; have X2 := X1.below b2; have B2 := B1.trans (b2.mono B1.size); clear x0 x1 x2 x3 x4 x5 y0 y1 y2 y3 y4 y5))
  obtain ⟨K1, hK1⟩ : ∃ K1, K1 = w.heap.size := ⟨_, rfl⟩
  obtain ⟨K2, hK2⟩ : ∃ K2, K2 = w.heap.size + 1 := ⟨_, rfl⟩
  obtain ⟨C, hC⟩ : ∃ C, C = w.heap.size + 2 := ⟨_, rfl⟩
  rw [← hC, ← hK2, ← hK1] at X2 ⊢
  have kK : w.heap.size ≤ K1 ∧ w.heap.size ≤ K2 ∧ w.heap.size ≤ C := by omega
  have kK2 : K1 < w2.heap.size ∧ K2 < w2.heap.size ∧ C < w2.heap.size := ⟨World.block_lt_of_cell? _ _ X2.1.1, World.block_lt_of_cell? _ _ X2.2.1, World.block_lt_of_cell? _ _ X2.2.2.2.2.1⟩
  clear hC hK2 hK1 X X1 B b1 b2
  have Q2 := hQ.below B2
  have S0 : OQ Q N T W cm (.slice (some ⟨L, 0, none⟩) 2 cap) K1 K2 C k p e wh b l w2.drew := ⟨Q2, X2⟩
  (refine wp_region_lead (OQ Q N T W cm (.slice (some ⟨L, 0, none⟩) 2 cap) K1 K2 C k p e wh b l) [6] [0, 1, 2, 3, 4, 5, 6, 7] _ (by kernel_rfl) (by kernel_rfl) (by kernel_rfl) (by simp only [List.filterMap_cons, List.getElem?_cons_zero, List.getElem?_cons_succ, Option.map_some, List.filterMap_nil]; rfl) rfl rfl S0 ?_)
  have e0 : ∀ g : Wits (OQ Q N T W cm (.slice (some ⟨L, 0, none⟩) 2 cap) K1 K2 C k p e wh b l), g.w.cell? ⟨Q, 0, none⟩ = some (.pointer (some ⟨N, 0, none⟩)) := fun g => (Wits.is g).1.c0
  have e1 : ∀ g : Wits (OQ Q N T W cm (.slice (some ⟨L, 0, none⟩) 2 cap) K1 K2 C k p e wh b l), g.w.cell? ⟨K2, 0, none⟩ = some (.int .i64 1) := fun g => (Wits.is g).2.2.1
  have e2 : ∀ g : Wits (OQ Q N T W cm (.slice (some ⟨L, 0, none⟩) 2 cap) K1 K2 C k p e wh b l), g.w.cell? ⟨K2, 1, none⟩ = some (.int .i64 0) := fun g => (Wits.is g).2.2.2.1
  have e3 : ∀ g : Wits (OQ Q N T W cm (.slice (some ⟨L, 0, none⟩) 2 cap) K1 K2 C k p e wh b l), g.w.cell? ⟨K2, 2, none⟩ = some (.int .i64 50) := fun g => (Wits.is g).2.2.2.2.1
  have e4 : ∀ g : Wits (OQ Q N T W cm (.slice (some ⟨L, 0, none⟩) 2 cap) K1 K2 C k p e wh b l), g.w.cell? ⟨C, 0, none⟩ = some (.int .i64 k) := fun g => (Wits.is g).2.2.2.2.2.1
  have e5 : ∀ g : Wits (OQ Q N T W cm (.slice (some ⟨L, 0, none⟩) 2 cap) K1 K2 C k p e wh b l), g.w.cell? ⟨C, 1, none⟩ = some (.int .i64 p) := fun g => (Wits.is g).2.2.2.2.2.2.1
  have e6 : ∀ g : Wits (OQ Q N T W cm (.slice (some ⟨L, 0, none⟩) 2 cap) K1 K2 C k p e wh b l), g.w.cell? ⟨C, 2, none⟩ = some (.int .i64 e) := fun g => (Wits.is g).2.2.2.2.2.2.2.1
  have e7 : ∀ g : Wits (OQ Q N T W cm (.slice (some ⟨L, 0, none⟩) 2 cap) K1 K2 C k p e wh b l), g.w.cell? ⟨C, 3, none⟩ = some (.int .i64 wh) := fun g => (Wits.is g).2.2.2.2.2.2.2.2.1
  have e8 : ∀ g : Wits (OQ Q N T W cm (.slice (some ⟨L, 0, none⟩) 2 cap) K1 K2 C k p e wh b l), g.w.cell? ⟨C, 4, none⟩ = some (.int .i64 b) := fun g => (Wits.is g).2.2.2.2.2.2.2.2.2.1
  have e9 : ∀ g : Wits (OQ Q N T W cm (.slice (some ⟨L, 0, none⟩) 2 cap) K1 K2 C k p e wh b l), g.w.cell? ⟨C, 5, none⟩ = some (.int .i64 l) := fun g => (Wits.is g).2.2.2.2.2.2.2.2.2.2.1
  (refine lead_quietB_n 6 rfl S0 ?_); (intro _); (simp only [List.take_succ_cons, List.take_zero, List.drop_succ_cons, List.drop_zero, List.map_cons, List.map_nil]); (repeat (go_big_quiet_step (fail))); (refine wpQuiet_nil ?_)
  clear e0 e1 e2 e3 e4 e5 e6 e7 e8 e9
  refine lead_one rfl ?_ S0
  have N2 : Nod0 a bb N r w2.drew := hN.below B2.drew
  have z2 : w.heap.size ≤ w2.heap.size := B2.size
  have hb2 : bb ≤ w2.drew.heap.size := by show bb ≤ w2.heap.size; omega
  go_wp2_with (go_at_call 30; (with_reducible refine (take_ok a bb N r k p e wh b l _ N2 hb2 r0 r1 hr hn hn0).mono ?_); rintro en w3 ⟨rfl, pl, ph, u1, u2, u3, N3, c3⟩)
  have u1 : w2.heap.size ≤ pl := u1
  have C3 : ChgL (fun j => a ≤ j ∧ j < bb) w2 w3 := ⟨c3.os, c3.tape, c3.output, c3.size, c3.block⟩
  have z3 := C3.size
  have S3 : OQ Q N T W cm (.slice (some ⟨L, 0, none⟩) 2 cap) K1 K2 C k p e wh b l w3 := OQ.chg (w := w2) S0 C3 (by unfold Out at oQ; omega) (by omega) (by omega) (by omega)
  have T3 : TabAt w3 T tab0 := (C3.block T (hT.below B2).lt (by unfold Out at oT; omega)).trans (hT.below B2)
  have W3 : M0 w3 W := (C3.block W (hW.below B2).lt (by unfold Out at oW; omega)).trans (hW.below B2)
  have K3 : LnkAt w3 Kl gp false := (C3.block Kl (hK.below B2).lt (by unfold Out at oK; omega)).trans (hK.below B2)
  have lL := World.block_lt_of_cell? w _ hL
  have L3 : w3.cell? ⟨L, 0, none⟩ = some (.pointer (some ⟨Kl, 0, none⟩)) := (World.cell?_of_block (w := w2) (C3.block L (by show L < w2.heap.size; exact Nat.lt_of_lt_of_le lL z2) (by unfold Out at oL; omega))).trans (cell_keep B2 hL)
  have CC : ChgL (fun j => lo ≤ j ∧ j < hi) w w3 := (ChgL.of B2).trans (C3.mono (fun j hj => by omega))
  refine ⟨rfl, S3, ?_⟩
  (refine lead_quietB_n 1 rfl S3 ?_); (intro _); (simp only [List.take_succ_cons, List.take_zero, List.drop_succ_cons, List.drop_zero, List.map_cons, List.map_nil]); (repeat (go_big_quiet_step (fail))); (refine wpQuiet_nil ?_)
  refine lead_nil ?_
  go_wp2
  have S3d : OQ Q N T W cm (.slice (some ⟨L, 0, none⟩) 2 cap) K1 K2 C k p e wh b l w3.drew := S3
  (refine wp_region_lead (OQ Q N T W cm (.slice (some ⟨L, 0, none⟩) 2 cap) K1 K2 C k p e wh b l) [10, 12] [0, 1, 2, 3, 4, 5, 6, 7, 8, 9, 10, 11, 12, 13] _ (by kernel_rfl) (by kernel_rfl) (by kernel_rfl) (by simp only [List.filterMap_cons, List.getElem?_cons_zero, List.getElem?_cons_succ, Option.map_some, List.filterMap_nil]; rfl) rfl rfl S3d ?_)
  have e0 : ∀ g : Wits (OQ Q N T W cm (.slice (some ⟨L, 0, none⟩) 2 cap) K1 K2 C k p e wh b l), g.w.cell? ⟨K1, 0, none⟩ = some (.int .i64 0) := fun g => (Wits.is g).2.1.1
  have e1 : ∀ g : Wits (OQ Q N T W cm (.slice (some ⟨L, 0, none⟩) 2 cap) K1 K2 C k p e wh b l), g.w.cell? ⟨K1, 1, none⟩ = some (.int .i64 0) := fun g => (Wits.is g).2.1.2.1
  have e2 : ∀ g : Wits (OQ Q N T W cm (.slice (some ⟨L, 0, none⟩) 2 cap) K1 K2 C k p e wh b l), g.w.cell? ⟨K1, 2, none⟩ = some (.int .i64 40) := fun g => (Wits.is g).2.1.2.2
  have e3 : ∀ g : Wits (OQ Q N T W cm (.slice (some ⟨L, 0, none⟩) 2 cap) K1 K2 C k p e wh b l), g.w.cell? ⟨K2, 0, none⟩ = some (.int .i64 1) := fun g => (Wits.is g).2.2.1
  have e4 : ∀ g : Wits (OQ Q N T W cm (.slice (some ⟨L, 0, none⟩) 2 cap) K1 K2 C k p e wh b l), g.w.cell? ⟨K2, 1, none⟩ = some (.int .i64 0) := fun g => (Wits.is g).2.2.2.1
  have e5 : ∀ g : Wits (OQ Q N T W cm (.slice (some ⟨L, 0, none⟩) 2 cap) K1 K2 C k p e wh b l), g.w.cell? ⟨K2, 2, none⟩ = some (.int .i64 50) := fun g => (Wits.is g).2.2.2.2.1
  have e6 : ∀ g : Wits (OQ Q N T W cm (.slice (some ⟨L, 0, none⟩) 2 cap) K1 K2 C k p e wh b l), g.w.cell? ⟨Q, 8, none⟩ = some (.int .i64 10) := fun g => (Wits.is g).1.c8
  (refine lead_quietB_n 10 rfl S3d ?_); (intro _); (simp only [List.take_succ_cons, List.take_zero, List.drop_succ_cons, List.drop_zero, List.map_cons, List.map_nil]); (repeat (go_big_quiet_step (fail))); (refine wpQuiet_nil ?_)
  clear e0 e1 e2 e3 e4 e5 e6
  refine lead_one rfl ?_ S3d
  go_wp2_with (go_at_call 31; (with_reducible refine (newA_any _).mono ?_); rintro en w4 ⟨A, rfl, A4, zA, b4⟩)
  have b4 : Below w3.heap.size w3 w4 := (Below.refl _ _).drew.trans b4
  have zA : w3.heap.size ≤ A := zA
  have S4 := S3.below b4
  refine ⟨rfl, S4, ?_⟩
  (refine lead_quietB_n 1 rfl S4 ?_); (intro _); (simp only [List.take_succ_cons, List.take_zero, List.drop_succ_cons, List.drop_zero, List.map_cons, List.map_nil]); (repeat (go_big_quiet_step (fail))); (refine wpQuiet_nil ?_)
  refine lead_one rfl ?_ S4
  have b5 : Below w4.heap.size w4 (w4.alloc (.cells #[.int .i64 0, .int .i64 0, .int .i64 40, .int .i64 1, .int .i64 0, .int .i64 50, .pointer (some ⟨A, 0, none⟩), .bool false] 99)) := (Below.refl _ _).alloc (Nat.le_refl _) _
  have Y5 : WayAt (w4.alloc (.cells #[.int .i64 0, .int .i64 0, .int .i64 40, .int .i64 1, .int .i64 0, .int .i64 50, .pointer (some ⟨A, 0, none⟩), .bool false] 99)) w4.heap.size A := heap_alloc_new _ _
  have z5 : (w4.alloc (.cells #[.int .i64 0, .int .i64 0, .int .i64 40, .int .i64 1, .int .i64 0, .int .i64 50, .pointer (some ⟨A, 0, none⟩), .bool false] 99)).heap.size = w4.heap.size + 1 := by simp
  go_wp2
  obtain ⟨w5, h5⟩ : ∃ w5, w5 = w4.alloc (.cells #[.int .i64 0, .int .i64 0, .int .i64 40, .int .i64 1, .int .i64 0, .int .i64 50, .pointer (some ⟨A, 0, none⟩), .bool false] 99) := ⟨_, rfl⟩
  rw [← h5] at b5 Y5 z5 ⊢
  clear h5
  have z4 := b4.size
  have lA := A4.lt
  obtain ⟨y, hy⟩ : ∃ y, y = w4.heap.size := ⟨_, rfl⟩
  rw [← hy] at Y5 ⊢
  have zy : w3.heap.size ≤ y ∧ y < w5.heap.size ∧ A < y := by omega
  clear hy z5
  have S5 := S4.below b5
  refine ⟨rfl, S5, ?_⟩
  (refine lead_quietB_n 1 rfl S5 ?_); (intro _); (simp only [List.take_succ_cons, List.take_zero, List.drop_succ_cons, List.drop_zero, List.map_cons, List.map_nil]); (repeat (go_big_quiet_step (fail))); (refine wpQuiet_nil ?_)
  refine lead_nil ?_
  go_wp2
  have b35 := b4.trans (b5.mono z4)
  have T5 := T3.below b35
  have W5 := W3.below b35
  have K5 := K3.below b35
  have L5 := cell_keep b35 L3
  have N5 := N3.below b35
  have A5 := A4.below b5
  have z35 := b35.size
  have CC5 : ChgL (fun j => lo ≤ j ∧ j < hi) w w5 := CC.trans (ChgL.of b35)
  clear S3 S3d S4 T3 W3 K3 L3 N3 A4 b4 b5 CC C3 S0 c3 Q2
  have lQ := hQ.lt
  have lT := hT.lt
  have lW := hW.lt
  have lK := hK.lt
  have m1 := ne_rows hQ hT (by decide)
  have m2 := ne_map hQ hW
  have m3 := ne_rows hQ hK (by decide)
  have m4 := ne_map hT hW
  have m5 := ne_rows hT hK (by decide)
  have m6 := ne_map hK hW
  have S5d : SD (OQ Q N T W cm (.slice (some ⟨L, 0, none⟩) 2 cap) K1 K2 C k p e wh b l) y A L Kl w5.drew := ⟨S5, Y5.cells.2.2.2, L5, cell_of_row _ Kl 4 _ _ _ K5, trivial⟩
  (refine wp_region_lead (SD (OQ Q N T W cm (.slice (some ⟨L, 0, none⟩) 2 cap) K1 K2 C k p e wh b l) y A L Kl) [15] [0, 1, 2, 3, 4, 5, 6, 7, 8, 9, 10, 11, 12, 13, 14, 15] _ (by kernel_rfl) (by kernel_rfl) (by kernel_rfl) (by simp only [List.filterMap_cons, List.getElem?_cons_zero, List.getElem?_cons_succ, Option.map_some, List.filterMap_nil]; rfl) rfl rfl S5d ?_)
  have e0 : ∀ g : Wits (SD (OQ Q N T W cm (.slice (some ⟨L, 0, none⟩) 2 cap) K1 K2 C k p e wh b l) y A L Kl), g.w.cell? ⟨y, 6, none⟩ = some (.pointer (some ⟨A, 0, none⟩)) := fun g => (Wits.is g).2.1
  have e1 : ∀ g : Wits (SD (OQ Q N T W cm (.slice (some ⟨L, 0, none⟩) 2 cap) K1 K2 C k p e wh b l) y A L Kl), g.w.cell? ⟨L, 0, none⟩ = some (.pointer (some ⟨Kl, 0, none⟩)) := fun g => (Wits.is g).2.2.1
  have e2 : ∀ g : Wits (SD (OQ Q N T W cm (.slice (some ⟨L, 0, none⟩) 2 cap) K1 K2 C k p e wh b l) y A L Kl), g.w.cell? ⟨Kl, 4, none⟩ = some (.bool false) := fun g => (Wits.is g).2.2.2.1
  have e3 : ∀ g : Wits (SD (OQ Q N T W cm (.slice (some ⟨L, 0, none⟩) 2 cap) K1 K2 C k p e wh b l) y A L Kl), g.w.cell? ⟨Q, 1, none⟩ = some (.slice (some ⟨L, 0, none⟩) 2 cap) := fun g => (Wits.is g).1.1.c1
  have e4 : ∀ g : Wits (SD (OQ Q N T W cm (.slice (some ⟨L, 0, none⟩) 2 cap) K1 K2 C k p e wh b l) y A L Kl), g.w.cell? ⟨K1, 0, none⟩ = some (.int .i64 0) := fun g => (Wits.is g).1.2.1.1
  (refine lead_quietB_n 15 rfl S5d ?_); (intro _); (simp only [List.take_succ_cons, List.take_zero, List.drop_succ_cons, List.drop_zero, List.map_cons, List.map_nil]); (repeat (go_big_quiet_step (fail))); (refine wpQuiet_nil ?_)
  clear e0 e1 e2 e3 e4
  refine lead_one rfl ?_ S5d
  have A5d : AlmAt w5.drew A := A5
  go_wp2_with (go_at_call 32; (with_reducible refine (down_any A false _ A5d).mono ?_); rintro en w6 ⟨rfl, A6, c6⟩)
  have C6 : ChgL (fun j => j = A) w5 w6 := ⟨c6.os, c6.tape, c6.output, c6.size, c6.block⟩
  have z6 := C6.size
  have S6 : OQ Q N T W cm (.slice (some ⟨L, 0, none⟩) 2 cap) K1 K2 C k p e wh b l w6 := S5.chg C6 (by omega) (by omega) (by omega) (by omega)
  have Y6 : WayAt w6 y A := (C6.block y Y5.lt (by omega)).trans Y5
  have L6 : w6.cell? ⟨L, 0, none⟩ = some (.pointer (some ⟨Kl, 0, none⟩)) := (World.cell?_of_block (w := w5) (C6.block L (by show L < _; omega) (by omega))).trans L5
  have K6 : LnkAt w6 Kl gp false := (C6.block Kl K5.lt (by omega)).trans K5
  have S6d : SD (OQ Q N T W cm (.slice (some ⟨L, 0, none⟩) 2 cap) K1 K2 C k p e wh b l) y A L Kl w6 := ⟨S6, Y6.cells.2.2.2, L6, cell_of_row _ Kl 4 _ _ _ K6, trivial⟩
  refine ⟨rfl, S6d, ?_⟩
  refine lead_nil ?_
  go_wp2
  have T6 : TabAt w6 T tab0 := (C6.block T T5.lt (by omega)).trans T5
  have S6e : OQ Q N T W cm (.slice (some ⟨L, 0, none⟩) 2 cap) K1 K2 C k p e wh b l w6.drew := S6
  (refine wp_region_lead (OQ Q N T W cm (.slice (some ⟨L, 0, none⟩) 2 cap) K1 K2 C k p e wh b l) [9] [0, 1, 2, 3, 4, 5, 6, 7, 8, 9] _ (by kernel_rfl) (by kernel_rfl) (by kernel_rfl) (by simp only [List.filterMap_cons, List.getElem?_cons_zero, List.getElem?_cons_succ, Option.map_some, List.filterMap_nil]; rfl) rfl rfl S6e ?_)
  have e0 : ∀ g : Wits (OQ Q N T W cm (.slice (some ⟨L, 0, none⟩) 2 cap) K1 K2 C k p e wh b l), g.w.cell? ⟨K1, 0, none⟩ = some (.int .i64 0) := fun g => (Wits.is g).2.1.1
  have e1 : ∀ g : Wits (OQ Q N T W cm (.slice (some ⟨L, 0, none⟩) 2 cap) K1 K2 C k p e wh b l), g.w.cell? ⟨K1, 1, none⟩ = some (.int .i64 0) := fun g => (Wits.is g).2.1.2.1
  have e2 : ∀ g : Wits (OQ Q N T W cm (.slice (some ⟨L, 0, none⟩) 2 cap) K1 K2 C k p e wh b l), g.w.cell? ⟨K1, 2, none⟩ = some (.int .i64 40) := fun g => (Wits.is g).2.1.2.2
  have e3 : ∀ g : Wits (OQ Q N T W cm (.slice (some ⟨L, 0, none⟩) 2 cap) K1 K2 C k p e wh b l), g.w.cell? ⟨Q, 2, none⟩ = some (.pointer (some ⟨T, 0, none⟩)) := fun g => (Wits.is g).1.c2
  have e4 : ∀ g : Wits (OQ Q N T W cm (.slice (some ⟨L, 0, none⟩) 2 cap) K1 K2 C k p e wh b l), g.w.cell? ⟨Q, 9, none⟩ = some (.int .i64 0) := fun g => (Wits.is g).1.c9
  (refine lead_quietB_n 9 rfl S6e ?_); (intro _); (simp only [List.take_succ_cons, List.take_zero, List.drop_succ_cons, List.drop_zero, List.map_cons, List.map_nil]); (repeat (go_big_quiet_step (fail))); (refine wpQuiet_nil ?_)
  clear e0 e1 e2 e3 e4
  refine lead_one rfl ?_ S6e
  have T6d : TabAt w6.drew T tab0 := T6
  go_wp2_with (go_at_call 33; (with_reducible refine (put_in T _ T6d).mono ?_); rintro en w7 ⟨rfl, T7, c7⟩)
  have C7 : ChgL (fun j => j = T) w6 w7 := ⟨c7.os, c7.tape, c7.output, c7.size, c7.block⟩
  have z7 := C7.size
  have S7 : OQ Q N T W cm (.slice (some ⟨L, 0, none⟩) 2 cap) K1 K2 C k p e wh b l w7 := S6.chg C7 (by omega) (by omega) (by omega) (by omega)
  have W6 : M0 w6 W := (C6.block W W5.lt (by omega)).trans W5
  have W7 : M0 w7 W := (C7.block W W6.lt (by omega)).trans W6
  refine ⟨rfl, S7, ?_⟩
  refine lead_nil ?_
  go_wp2
  have S7e : OQ Q N T W cm (.slice (some ⟨L, 0, none⟩) 2 cap) K1 K2 C k p e wh b l w7.drew := S7
  (refine wp_region_lead (OQ Q N T W cm (.slice (some ⟨L, 0, none⟩) 2 cap) K1 K2 C k p e wh b l) [9] [0, 1, 2, 3, 4, 5, 6, 7, 8, 9] _ (by kernel_rfl) (by kernel_rfl) (by kernel_rfl) (by simp only [List.filterMap_cons, List.getElem?_cons_zero, List.getElem?_cons_succ, Option.map_some, List.filterMap_nil]; rfl) rfl rfl S7e ?_)
  have e0 : ∀ g : Wits (OQ Q N T W cm (.slice (some ⟨L, 0, none⟩) 2 cap) K1 K2 C k p e wh b l), g.w.cell? ⟨Q, 3, none⟩ = some (.map (some W)) := fun g => (Wits.is g).1.c3
  have e1 : ∀ g : Wits (OQ Q N T W cm (.slice (some ⟨L, 0, none⟩) 2 cap) K1 K2 C k p e wh b l), g.w.cell? ⟨Q, 9, none⟩ = some (.int .i64 0) := fun g => (Wits.is g).1.c9
  (refine lead_quietB_n 9 rfl S7e ?_); (intro _); (simp only [List.take_succ_cons, List.take_zero, List.drop_succ_cons, List.drop_zero, List.map_cons, List.map_nil]); (repeat (go_big_quiet_step (fail))); (refine wpQuiet_nil ?_)
  clear e0 e1
  refine lead_one rfl ?_ S7e
  have W7d : M0 w7.drew W := W7
  go_wp2_with (at_mapUpdate; refine wpList_upd0 (val := .pointer (some ⟨y, 0, none⟩)) rfl _ _ _ _ rfl undW undI rfl W7d rfl rfl ?_; intro w8 W8 c8 s8)
  have C8 : ChgL (fun j => j = W) w7 w8 := ⟨c8.os, c8.tape, c8.output, c8.size, c8.block⟩
  have z8 := C8.size
  have S8 : OQ Q N T W cm (.slice (some ⟨L, 0, none⟩) 2 cap) K1 K2 C k p e wh b l w8 := S7.chg C8 (by omega) (by omega) (by omega) (by omega)
  refine ⟨rfl, S8, ?_⟩
  refine lead_nil ?_
  have q9 := S8.1.c9
  have f9 := S8.1.froz 9
  clear S5 S5d S6d S6e S7 S7e S6 T6d W7d A5d
  go_wp2
  go_ret
  obtain ⟨X, hX⟩ : ∃ X, X = w8.setCell ⟨Q, 9, none⟩ (.int .i64 1) := ⟨_, rfl⟩
  have C9 : ChgL (fun j => j = Q) w8 X := by rw [hX]; exact ChgL.chg ((Chg.refl Q w8).setCell 9 _) rfl
  have PX : PlnRow X Q N T W cm (.slice (some ⟨L, 0, none⟩) 2 cap) 1 0 0 0 0 0 0 := by rw [hX]; exact S8.1.sNx
  rw [← hX]
  clear hX S8 q9 f9
  have z9 := C9.size
  have C78 : ChgL (fun j => j = T ∨ j = W ∨ j = Q) w6 X := ((C7.mono (fun j hj => .inl hj)).trans (C8.mono (fun j hj => .inr (.inl hj)))).trans (C9.mono (fun j hj => .inr (.inr hj)))
  have CF : ChgL (fun j => j = A ∨ j = T ∨ j = W ∨ j = Q) w5 X := (C6.mono (fun j hj => .inl hj)).trans (C78.mono (fun j hj => .inr hj))
  have TX : TabAt X T tabI := (C9.block T (Nat.lt_of_lt_of_le T7.lt z8) (by omega)).trans ((C8.block T T7.lt (by omega)).trans T7)
  have WX : M1 X W (.pointer (some ⟨y, 0, none⟩)) := (C9.block W W8.lt (by omega)).trans W8
  have KX : LnkAt X Kl gp false := (CF.block Kl K5.lt (by omega)).trans K5
  have YX : WayAt X y A := (CF.block y Y5.lt (by omega)).trans Y5
  have AX : AlmAt X A := A6.block (C78.block A A6.lt (by omega))
  have LX : X.cell? ⟨L, 0, none⟩ = some (.pointer (some ⟨Kl, 0, none⟩)) := (World.cell?_of_block (w := w5) (CF.block L (by show L < _; omega) (by omega))).trans L5
  have NX : Nod1 (NO a bb pl ph) N (pzOf k p e wh b) S4.zero 0 0 0 0 X := N5.other CF (fun j hj => by unfold NO; unfold Out at *; omega)
  refine ⟨rfl, ⟨N, T, W, cm, L, cap, Kl, y, A, a, bb, pl, ph, ⟨PX, LX, ⟨_, _, KX⟩, TX, WX, YX, AX, NX, ?_⟩, ?_⟩, CC5.cutN CF (fun j hj hs => by omega)⟩
  · unfold Out at *
    omega
  · intro j hj
    have h1 : Q < hi := dQ.2
    have h2 : Kl < hi := dK.2
    have h3 : w.heap.size ≤ A := by omega
    have h4 : w.heap.size ≤ pl := Nat.le_trans z2 u1
    have h5 : bb ≤ hi := db
    exact mv_out h1 h2 h3 h4 h5 dT.2 dW.2 dL.2 (by omega) j hj
theorem open_ok (lo hi Q : Nat) (r k p e wh b l : Int) (w : World) (h : Pln0 lo hi Q r w) (hhi : hi ≤ w.heap.size) (r0 : 0 ≤ r) (r1 : r ≤ 1152921504606846976) (hr : rightZ k p e wh b l = 0) (hn : needZ k p e wh b l ≤ r) (hn0 : 0 ≤ needZ k p e wh b l) :
    Calls Tryz.prog 9 #[.pointer (some ⟨Q, 0, none⟩), .agg #[.int .i64 0, .int .i64 0, .int .i64 40], .agg #[.int .i64 1, .int .i64 0, .int .i64 50], .agg #[.int .i64 k, .int .i64 p, .int .i64 e, .int .i64 wh, .int .i64 b, .int .i64 l]] w fun en w' => en = .returned (.int .i64 0) ∧ Pln1 lo w'.heap.size Q (pzOf k p e wh b) S4.zero 0 0 0 0 0 0 false 0 0 0 0 0 0 w' ∧ ChgL (fun j => lo ≤ j ∧ j < hi) w w' :=
  (open_okH lo hi Q r k p e wh b l w h hhi r0 r1 hr hn hn0).mono fun _ _ ⟨h1, h2, h3⟩ => ⟨h1, h2.out, h3⟩
end Go.Proofs.YtaoagbnhomjkpaaGreat

/- plane: a cell is sent; the law's cells. -/
namespace Go.Proofs.YtaoagbnhomjkpaaGreat
set_option linter.unusedVariables false
set_option linter.unusedSimpArgs false
open Go.RowKit
set_option maxRecDepth 100000
set_option maxHeartbeats 4000000
/-- a cell's bytes, of the call's own. -/
structure CellRow (w : World) (lo : Nat) (b cap : Nat) (zs : List Int) : Prop where
  bytes : BytesAt w (some ⟨b, 0, none⟩) 53 zs
  cap1 : 53 ≤ cap
  cap2 : cap ≤ 9223372036854775807
  low : lo ≤ b
theorem CellRow.below {w w' : World} {lo b cap : Nat} {zs : List Int} (h : CellRow w lo b cap zs) (hb : Below w.heap.size w w') : CellRow w' lo b cap zs := ⟨h.bytes.below hb, h.cap1, h.cap2, h.low⟩
theorem buildX_at (X : Array Value) (g p c t l n : Int) (nni : Bool) (zs : List Int) (w : World) (hX : Hid (X = (cellV g p c t l zs).toArray)) (hr : rightH nni g p c t l = true) (hw : wordH nni g p c t l = n) (hl : zs.length = 48) (hb : allB zs) :
    Calls Tryz.prog 34 #[.agg X, .bool nni] w fun e w' => ∃ b cap, e = .returned (.tuple #[.slice (some ⟨b, 0, none⟩) 53 cap, .int .i64 0]) ∧ CellRow w' w.heap.size b cap (cellZ n zs) ∧ Below w.heap.size w w' := by
  refine (buildX_yes X g p c t l n nni zs w hX hr hw hl hb).mono ?_
  rintro e w' ⟨v, rfl, own, hbw⟩
  obtain ⟨a1, c1, rfl, hac1, hcm1, HB1, HF1, HN1⟩ := own.at (by omega)
  obtain ⟨b, off, rfl, hlt, hc⟩ := HB1.cells (by omega)
  obtain ⟨h1, rfl, h3, h4⟩ := HF1 b off rfl
  exact ⟨b, c1, rfl, ⟨HB1, hac1, hcm1, h1⟩, hbw⟩
theorem bytes_any (c t l n : Int) (ps : List Int) (X : Array Value) (w : World) (hX : Hid (X = (u8s ps).toArray)) (hlp : Hid (ps.length = 48)) (hbp : Hid (allB ps)) (hr : rightH false 0 0 c t l = true) (hn : Hid (wordH false 0 0 c t l = n)) :
    Calls Tryz.prog 10 #[.int .i64 c, .int .i64 t, .int .i64 l, .agg X] w fun e w' => ∃ b cap, e = .returned (.slice (some ⟨b, 0, none⟩) 53 cap) ∧ CellRow w' w.heap.size b cap (cellZ n ps) ∧ Below w.heap.size w w' := by
  obtain ⟨Y, hY⟩ : ∃ Y, Hid (Y = (cellV 0 0 c t l ps).toArray) := ⟨_, rfl⟩
  have hsp : X.size = 48 := sizeP hX hlp.out
  have hsy : Y.size = 53 := sizeX hY hlp.out
  have P0 := bytes_block (w := w) (E := 24) hX rfl hlp.out hbp.out
  go_enter Tryz.func10, Tryz.ntmps10
  go_wp2_with (first
    | ((with_reducible refine wpList_load48 X ?_ ?_); (focus (exact ⟨_, _, rfl, hsp, range_of P0 hX⟩)))
    | ((with_reducible refine wpList_build46 Y 0 0 c t l ps hY ?_ ?_); (focus (exact ⟨rfl, by rw [← hX.out]; rfl, hlp.out⟩)))
    | (go_at_call 34; (with_reducible refine (buildX_at Y 0 0 c t l n false ps _ hY hr hn.out hlp.out hbp.out).mono ?_); rintro e wb ⟨b, cap, rfl, hc, hb⟩))
  go_ret
  have B0 : Below w.heap.size w (w.alloc (.cells X 24)) := (Below.refl _ _).alloc (Nat.le_refl _) _
  exact ⟨b, cap, rfl, ⟨hc.bytes, hc.cap1, hc.cap2, Nat.le_trans B0.size hc.low⟩, B0.trans (hb.mono B0.size)⟩
theorem load_out {w : World} {g : Nat} {a b : Value} (h0 : w.cell? ⟨g, 0, none⟩ = some a) (h1 : w.cell? ⟨g, 1, none⟩ = some b) : (loadVar 42 ⟨g, 0, none⟩).run Tryz.prog w = .ok (.agg #[a, b]) w := by
  have hl : (loadCells ⟨g, 0, none⟩ 2).run Tryz.prog w = .ok #[a, b] w :=
    run_loadCells_list (P := Tryz.prog) w ⟨g, 0, none⟩ [a, b] (fun j v hv => by
      have hadd : (⟨g, 0, none⟩ : Addr).add j = ⟨g, j, none⟩ := by unfold Addr.add; split <;> simp_all
      rw [hadd]
      match j, hv with
      | 0, hv => simp at hv; rw [h0, hv]
      | 1, hv => simp at hv; rw [h1, hv]
      | j + 2, hv => simp at hv)
  simp [loadVar, hl]
theorem send_any (t l n : Int) (ps : List Int) (X : Array Value) (w : World) (hX : Hid (X = (u8s ps).toArray)) (hlp : Hid (ps.length = 48)) (hbp : Hid (allB ps)) (hr : rightH false 0 0 50 t l = true) (hn : Hid (wordH false 0 0 50 t l = n)) :
    Calls Tryz.prog 66 #[.agg #[.int .i64 1, .int .i64 0, .int .i64 50], .int .i64 t, .int .i64 l, .agg X] w fun e w' => ∃ b cap, e = .returned (.agg #[.int .i64 1, .slice (some ⟨b, 0, none⟩) 53 cap]) ∧ CellRow w' w.heap.size b cap (cellZ n ps) ∧ Below w.heap.size w w' := by
  obtain ⟨Y, hY⟩ : ∃ Y, Hid (Y = (cellV 0 0 50 t l ps).toArray) := ⟨_, rfl⟩
  have hsp : X.size = 48 := sizeP hX hlp.out
  have hsy : Y.size = 53 := sizeX hY hlp.out
  have P0 : BytesAt (((w.alloc (.cells #[.int .i64 1, .int .i64 0, .int .i64 50] 29)).alloc (.cells X 24)).alloc (.cells #[.int .i64 0, .slice none 0 0] 42)) (some ⟨w.heap.size + 1, 0, none⟩) 48 ps := (bytes_block (w := (w.alloc (.cells #[.int .i64 1, .int .i64 0, .int .i64 50] 29))) hX (by simp) hlp.out hbp.out).below ((Below.refl _ _).alloc (Nat.le_refl _) _)
  have B0 : Below w.heap.size w (((w.alloc (.cells #[.int .i64 1, .int .i64 0, .int .i64 50] 29)).alloc (.cells X 24)).alloc (.cells #[.int .i64 0, .slice none 0 0] 42)) := below3 w _ _ _
  have sW : w.heap.size + 2 < (((w.alloc (.cells #[.int .i64 1, .int .i64 0, .int .i64 50] 29)).alloc (.cells X 24)).alloc (.cells #[.int .i64 0, .slice none 0 0] 42)).heap.size := by simp
  have x0 : (((w.alloc (.cells #[.int .i64 1, .int .i64 0, .int .i64 50] 29)).alloc (.cells X 24)).alloc (.cells #[.int .i64 0, .slice none 0 0] 42)).cell? ⟨w.heap.size, 0, none⟩ = some (.int .i64 1) := cell_under (by simp; omega) (cell_under (by simp) (cell_top rfl rfl))
  have y0 : (((w.alloc (.cells #[.int .i64 1, .int .i64 0, .int .i64 50] 29)).alloc (.cells X 24)).alloc (.cells #[.int .i64 0, .slice none 0 0] 42)).cell? ⟨w.heap.size + 2, 0, none⟩ = some (.int .i64 0) := cell_top (by simp) rfl
  have y1 : (((w.alloc (.cells #[.int .i64 1, .int .i64 0, .int .i64 50] 29)).alloc (.cells X 24)).alloc (.cells #[.int .i64 0, .slice none 0 0] 42)).cell? ⟨w.heap.size + 2, 1, none⟩ = some (.slice none 0 0) := cell_top (by simp) rfl
  have yf : ∀ o, (((w.alloc (.cells #[.int .i64 1, .int .i64 0, .int .i64 50] 29)).alloc (.cells X 24)).alloc (.cells #[.int .i64 0, .slice none 0 0] 42)).frozen? ⟨w.heap.size + 2, o, none⟩ = false := fun o => frozen_top (by simp)
  go_enter Tryz.func66, Tryz.ntmps66
  go_wp2_with (first
    | ((with_reducible refine wpList_load48 X ?_ ?_); (focus (exact ⟨_, _, rfl, hsp, range_of P0 hX⟩)))
    | ((with_reducible refine wpList_build46 Y 0 0 50 t l ps hY ?_ ?_); (focus (exact ⟨rfl, by rw [← hX.out]; rfl, hlp.out⟩)))
    | (go_at_call 34; (with_reducible refine (buildX_at Y 0 0 50 t l n false ps _ hY hr hn.out hlp.out hbp.out).mono ?_); rintro e wb ⟨b, cap, rfl, hc, hb⟩; have x1 := cell_keep hb x0; have z0 := cell_keep hb y0; have z1 := cell_keep hb y1; have q0 := (hb.frozen (p := ⟨w.heap.size + 2, 0, none⟩) sW).trans (yf 0); have q1 := (hb.frozen (p := ⟨w.heap.size + 2, 1, none⟩) sW).trans (yf 1)))
  have hlow := hc.low
  have zb := hb.size
  have sw2 : w.heap.size + 2 < wb.heap.size := by omega
  have hbl : w.heap.size + 2 < b := by omega
  have C1 : Chg (w.heap.size + 2) wb ((wb.setCell ⟨w.heap.size + 2, 0, none⟩ (.int .i64 1)).setCell ⟨w.heap.size + 2, 1, none⟩ (.slice (some ⟨b, 0, none⟩) 53 cap)) := ((Chg.refl _ wb).setCell 0 _).setCell 1 _
  refine bodyPost_ret (results_c1 rfl _ _ rfl (load_out (cell_off (by decide) (cell_set z0)) (cell_set (cell_off (by decide) z1)))) rfl ⟨b, cap, rfl, ⟨hc.bytes.chgU C1 (fun b' off e => by injection e with e; injection e with e1 e2; omega), hc.cap1, hc.cap2, by omega⟩, ?_⟩
  exact (B0.trans (hb.mono B0.size)).trans (C1.below (by omega) (by omega))
end Go.Proofs.YtaoagbnhomjkpaaGreat

/- plane: what is sent on when a cell comes. -/
namespace Go.Proofs.YtaoagbnhomjkpaaGreat
set_option linter.unusedVariables false
set_option linter.unusedSimpArgs false
open Go.RowKit
set_option maxRecDepth 100000
set_option maxHeartbeats 4000000
theorem verdict_at {O : Nat → Prop} {N : Nat} {c : Pz} {S S' : S4} {c0 c1 c2 c3 d0 d1 d2 d3 t clp v : Int} {z : Bool} {w : World} (hz : (clp == 0) = z) (h : Nod1 O N c S c0 c1 c2 c3 w) (hM : S.Bd 2305843009213693952) (b0 : 0 ≤ c0 ∧ c0 ≤ 1000000) (b1 : 0 ≤ c1 ∧ c1 ≤ 1000000) (b2 : 0 ≤ c2 ∧ c2 ≤ 1000000) (b3 : 0 ≤ c3 ∧ c3 ≤ 1000000) (hv : c.last S t z = v) (hS : c.nxt S t z = S')
    (e0 : c0 + 1 = d0) (e1 : c1 + hit v 1 = d1) (e2 : c2 + hit v 2 = d2) (e3 : c3 + hit v 3 = d3) :
    Calls Tryz.prog 67 #[.pointer (some ⟨N, 0, none⟩), .agg #[.int .i64 1, .int .i64 0, .int .i64 50], .int .i64 t, .int .i64 clp] w fun en w' => en = .returned (.tuple #[.int .i64 v, .bool true]) ∧ Nod1 O N c S' d0 d1 d2 d3 w' ∧ ChgL O w w' := by
  subst hv hS e0 e1 e2 e3
  exact verdict_ok O N c S c0 c1 c2 c3 t clp z hz w h hM b0 b1 b2 b3
section
variable {lo hi Q N T W cm L cap K y A a b pl ph : Nat} {cz : Pz} {S S' : S4} {c0 c1 c2 c3 d0 d1 d2 d3 : Int} {rr rd rr' rd' : Int} {rc rc' : Bool} {now sp id pa ta dr now' sp' id' pa' ta' dr' : Int} {w w' : World}
theorem PlAt.step {s : Nat → Prop} (h : PlAt lo hi Q N T W cm L cap K y A a b pl ph cz S c0 c1 c2 c3 rr rd rc now sp id pa ta dr w) (hc : ChgL s w w') (hs : ∀ j, s j → Mv Q K A a b pl ph j)
    (h1 : PlnRow w' Q N T W cm (.slice (some ⟨L, 0, none⟩) 2 cap) 1 now' sp' id' pa' ta' dr') (h2 : RecAt w' K rr' rd' rc') (h3 : AlmAt w' A) (h4 : Nod1 (NO a b pl ph) N cz S' d0 d1 d2 d3 w') : PlAt lo hi Q N T W cm L cap K y A a b pl ph cz S' d0 d1 d2 d3 rr' rd' rc' now' sp' id' pa' ta' dr' w' := by
  obtain ⟨hQ, hL, hK, hT, hW, hy, hA, hN, rest⟩ := h
  have r := rest
  have key : ∀ j, j ≠ Q → j ≠ K → j ≠ A → Out a b j → Out pl ph j → ¬ s j := fun j h1 h2 h3 h4 h5 e => by
    have := hs j e
    unfold Mv NO at this
    unfold Out at h4 h5
    omega
  obtain ⟨_, _, _, _, _, _, _, _, _, ⟨oQ, oT, oW, oL, oK, oy, oA⟩, ⟨uQ, uT, uW, uL, uK, uy, uA⟩, _, ⟨t1, t2, t3⟩, ⟨w1, w2, w3⟩, ⟨l1, l2, l3⟩, ⟨y1, y2, y3⟩⟩ := r
  refine ⟨h1, (World.cell?_of_block (w := w) (hc.block L (World.block_lt_of_cell? w _ hL) (key L l1 l2 l3 oL uL))).trans hL, h2, ?_, ?_, ?_, h3, h4, rest⟩
  · exact (hc.block T hT.lt (key T t1 t2 t3 oT uT)).trans hT
  · exact (hc.block W hW.lt (key W w1 w2 w3 oW uW)).trans hW
  · exact (hc.block y hy.lt (key y y1 y2 y3 oy uy)).trans hy
theorem PlAt.below (h : PlAt lo hi Q N T W cm L cap K y A a b pl ph cz S c0 c1 c2 c3 rr rd rc now sp id pa ta dr w) (hb : Below w.heap.size w w') : PlAt lo hi Q N T W cm L cap K y A a b pl ph cz S c0 c1 c2 c3 rr rd rc now sp id pa ta dr w' :=
  h.step (s := fun _ => False) (ChgL.of hb) (fun j e => e.elim) (h.1.below hb) (h.2.2.1.below hb) (h.2.2.2.2.2.2.1.below hb) (h.2.2.2.2.2.2.2.1.below hb)
theorem PlAt.other {s : Nat → Prop} (h : PlAt lo hi Q N T W cm L cap K y A a b pl ph cz S c0 c1 c2 c3 rr rd rc now sp id pa ta dr w) (hc : ChgL s w w') (hd : ∀ j, s j → ¬ Bk Q K A a b pl ph T W L y j) : PlAt lo hi Q N T W cm L cap K y A a b pl ph cz S c0 c1 c2 c3 rr rd rc now sp id pa ta dr w' := by
  obtain ⟨hQ, hL, ⟨rest1, TK, hK⟩, hT, hW, hy, hA, hN, rest⟩ := h
  refine ⟨(hc.block Q hQ.lt (fun e => hd Q e (.inl (.inl rfl)))).trans hQ, (World.cell?_of_block (w := w) (hc.block L (World.block_lt_of_cell? w _ hL) (fun e => hd L e (.inr (.inr (.inr (.inl rfl))))))).trans hL, ⟨rest1, TK, (hc.block K (Array.getElem?_eq_some_iff.1 hK).1 (fun e => hd K e (.inl (.inr (.inl rfl))))).trans hK⟩, (hc.block T hT.lt (fun e => hd T e (.inr (.inl rfl)))).trans hT, (hc.block W hW.lt (fun e => hd W e (.inr (.inr (.inl rfl))))).trans hW, (hc.block y hy.lt (fun e => hd y e (.inr (.inr (.inr (.inr rfl)))))).trans hy, hA.block (hc.block A hA.lt (fun e => hd A e (.inl (.inr (.inr (.inl rfl)))))), hN.other hc (fun j e1 e2 => hd j e1 (.inl (.inr (.inr (.inr e2))))), rest⟩
theorem PlAt.mv (h : PlAt lo hi Q N T W cm L cap K y A a b pl ph cz S c0 c1 c2 c3 rr rd rc now sp id pa ta dr w) (j : Nat) (hj : Mv Q K A a b pl ph j) : lo ≤ j ∧ j < hi := by
  obtain ⟨hQ, hL, hK, hT, hW, hy, hA, hN, b1, b2, b3, b4, b5, b6, b7, b8, b9, rest⟩ := h
  clear rest
  unfold Mv NO at hj
  rcases hj with rfl | rfl | rfl | hj | hj
  · exact b1
  · exact b5
  · exact b7
  · omega
  · omega
theorem PlAt.apart (h : PlAt lo hi Q N T W cm L cap K y A a b pl ph cz S c0 c1 c2 c3 rr rd rc now sp id pa ta dr w) : ¬ NO a b pl ph Q ∧ ¬ NO a b pl ph K ∧ ¬ NO a b pl ph y ∧ ¬ NO a b pl ph A ∧ (Q ≠ K ∧ Q ≠ A ∧ K ≠ A) ∧ (y ≠ Q ∧ y ≠ K ∧ y ≠ A) := by
  have r := h.2.2.2.2.2.2.2.2
  obtain ⟨_, _, _, _, _, _, _, _, _, ⟨oQ, oT, oW, oL, oK, oy, oA⟩, ⟨uQ, uT, uW, uL, uK, uy, uA⟩, hq, _, _, _, hy⟩ := r
  have key : ∀ j, Out a b j → Out pl ph j → ¬ NO a b pl ph j := fun j h1 h2 h3 => by
    clear oQ oT oW oL oK oy oA uQ uT uW uL uK uy uA h
    unfold NO at h3
    omega
  exact ⟨key Q oQ uQ, key K oK uK, key y oy uy, key A oA uA, hq, hy⟩
end
theorem Pln1H.other {s : Nat → Prop} {x1 x2 lo hi Q : Nat} {cz : Pz} {S : S4} {c0 c1 c2 c3 rr rd : Int} {rc : Bool} {now sp id pa ta dr : Int} {w w' : World} (h : Pln1H x1 x2 lo hi Q cz S c0 c1 c2 c3 rr rd rc now sp id pa ta dr w) (hc : ChgL s w w') (hd : ∀ j, s j → x1 ≤ j ∧ j < x2) : Pln1H x1 x2 lo hi Q cz S c0 c1 c2 c3 rr rd rc now sp id pa ta dr w' := by
  obtain ⟨N, T, W, cm, L, cap, K, y, A, a, b, pl, ph, hP, hx⟩ := h
  exact ⟨N, T, W, cm, L, cap, K, y, A, a, b, pl, ph, hP.other hc (fun j e1 e2 => by have h1 := hd j e1; have h2 := hx j e2; unfold Out at h2; omega), hx⟩
theorem Pln1H.below {x1 x2 lo hi Q : Nat} {cz : Pz} {S : S4} {c0 c1 c2 c3 rr rd : Int} {rc : Bool} {now sp id pa ta dr : Int} {w w' : World} (h : Pln1H x1 x2 lo hi Q cz S c0 c1 c2 c3 rr rd rc now sp id pa ta dr w) (hb : Below w.heap.size w w') : Pln1H x1 x2 lo hi Q cz S c0 c1 c2 c3 rr rd rc now sp id pa ta dr w' := by
  obtain ⟨N, T, W, cm, L, cap, K, y, A, a, b, pl, ph, hP, hx⟩ := h
  exact ⟨N, T, W, cm, L, cap, K, y, A, a, b, pl, ph, hP.below hb, hx⟩
theorem last_ex (c : Pz) (S : S4) (t : Int) (z : Bool) : c.last S t z = 1 ∨ c.last S t z = 2 ∨ c.last S t z = 3 := by
  unfold Pz.last finZ
  split
  · exact .inr (.inl rfl)
  · unfold Pz.verd
    split
    · exact .inr (.inr rfl)
    · split
      · split
        · exact .inr (.inl rfl)
        · exact .inr (.inr rfl)
      · exact .inl rfl
/-- what is sent: one cell, on the link 1. -/
def OutAt (w : World) (lo : Nat) (v : Value) (zs : List Int) : Prop := ∃ o b cap, v = .slice (some ⟨o, 0, none⟩) 1 1 ∧ w.cell? ⟨o, 0, none⟩ = some (.int .i64 1) ∧ w.cell? ⟨o, 1, none⟩ = some (.slice (some ⟨b, 0, none⟩) 53 cap) ∧ CellRow w lo b cap zs ∧ lo ≤ o
/-- what pass reads. -/
def PR (Q N T W cm L cap y A Kx : Nat) (now sp id pa ta dr t l : Int) (ps : List Int) (w : World) : Prop := PlnRow w Q N T W cm (.slice (some ⟨L, 0, none⟩) 2 cap) 1 now sp id pa ta dr ∧ WayAt w y A ∧ CellAt w Kx 0 0 40 t l ps
theorem PR.row {s : Nat → Prop} {Q N T W cm L cap y A Kx : Nat} {now sp id pa ta dr now' sp' id' pa' ta' dr' t l : Int} {ps : List Int} {w w' : World} (h : PR Q N T W cm L cap y A Kx now sp id pa ta dr t l ps w) (hc : ChgL s w w') (h1 : PlnRow w' Q N T W cm (.slice (some ⟨L, 0, none⟩) 2 cap) 1 now' sp' id' pa' ta' dr') (h2 : ¬ s y) (h3 : ¬ s Kx) : PR Q N T W cm L cap y A Kx now' sp' id' pa' ta' dr' t l ps w' := by
  have q : ∀ {o : Nat} {v : Value}, w.cell? ⟨Kx, o, none⟩ = some v → w'.cell? ⟨Kx, o, none⟩ = some v := fun hv =>
    (World.cell?_of_block (w := w) (hc.block _ (World.block_lt_of_cell? w _ hv) h3)).trans hv
  obtain ⟨a1, a2, a3⟩ := h
  refine ⟨h1, (hc.block y a2.lt h2).trans a2, ⟨q a3.c0, q a3.c1, q a3.c2, q a3.c3, q a3.c4, ⟨a3.row.length, a3.row.most, a3.row.byte, fun hp => ?_⟩⟩⟩
  obtain ⟨b, off, e, hlt, hcl⟩ := a3.row.cells hp
  injection e with e; injection e with e1 e2
  subst e1 e2
  exact ⟨_, _, rfl, Nat.lt_of_lt_of_le hlt hc.size, fun k hk => q (hcl k hk)⟩
theorem PR.chg {s : Nat → Prop} {Q N T W cm L cap y A Kx : Nat} {now sp id pa ta dr t l : Int} {ps : List Int} {w w' : World} (h : PR Q N T W cm L cap y A Kx now sp id pa ta dr t l ps w) (hc : ChgL s w w') (h1 : ¬ s Q) (h2 : ¬ s y) (h3 : ¬ s Kx) : PR Q N T W cm L cap y A Kx now sp id pa ta dr t l ps w' :=
  h.row hc ((hc.block Q h.1.lt h1).trans h.1) h2 h3
theorem RecAt.blk {w w' : World} {b : Nat} {r d : Int} {c : Bool} (h : RecAt w b r d c) (hb : w'.heap[b]? = w.heap[b]?) : RecAt w' b r d c := let ⟨rest, T, g⟩ := h; ⟨rest, T, hb.trans g⟩
theorem PR.below {Q N T W cm L cap y A Kx : Nat} {now sp id pa ta dr t l : Int} {ps : List Int} {w w' : World} (h : PR Q N T W cm L cap y A Kx now sp id pa ta dr t l ps w) (hb : Below w.heap.size w w') : PR Q N T W cm L cap y A Kx now sp id pa ta dr t l ps w' :=
  h.chg (s := fun _ => False) (ChgL.of hb) (fun e => e) (fun e => e) (fun e => e)
theorem pass_drop (lo hi Q N T W cm L cap K y A a b pl ph : Nat) (cz : Pz) (S : S4) (c0 c1 c2 c3 rr rd : Int) (rc : Bool) (now sp id pa ta dr t l : Int) (ps : List Int) (X : Array Value) (w : World) (h : PlAt lo hi Q N T W cm L cap K y A a b pl ph cz S c0 c1 c2 c3 rr rd rc now sp id pa ta dr w) (hhi : hi ≤ w.heap.size) (hX : Hid (X = (cellV 0 0 40 t l ps).toArray)) (hlp : Hid (ps.length = 48)) (hbp : Hid (allB ps))
    (z : Bool) (hz : (l == 0) = z) (hM : S.Bd 2305843009213693952) (b0 : 0 ≤ c0 ∧ c0 ≤ 1000000) (b1 : 0 ≤ c1 ∧ c1 ≤ 1000000) (b2 : 0 ≤ c2 ∧ c2 ≤ 1000000) (b3 : 0 ≤ c3 ∧ c3 ≤ 1000000) (bc : 0 ≤ dr ∧ dr ≤ 1000000) (hv : cz.last S now z = 3) :
    Calls Tryz.prog 40 #[.pointer (some ⟨Q, 0, none⟩), .pointer (some ⟨y, 0, none⟩), .agg X, .bool true] w fun e w' => e = .returned (.slice none 0 0) ∧ PlAt lo hi Q N T W cm L cap K y A a b pl ph cz (cz.nxt S now z) (c0 + 1) c1 c2 (c3 + 1) rr rd rc now sp id pa ta (dr + 1) w' ∧ ChgL (Mv Q K A a b pl ph) w w' := by
  have hsx : X.size = 53 := sizeX hX hlp.out
  have HB : CellAt (w.alloc (.cells X 58)) w.heap.size 0 0 40 t l ps := cellAt_new hX.out hlp.out hbp.out
  have BW : Below w.heap.size w (w.alloc (.cells X 58)) := (Below.refl _ _).alloc (Nat.le_refl _) _
  have k4 := HB.c4
  have Wy := h.2.2.2.2.2.1
  have Px := h.1
  obtain ⟨nQ, nK0, ny, nA, ⟨q1, q2, q3⟩, y1, y2, y3⟩ := h.apart
  have lQ := Px.lt
  have ly := Wy.lt
  have lA := h.2.2.2.2.2.2.1.lt
  have dK := h.mv
  have HZ := Lib.hid hz
  have HV := Lib.hid hv
  clear hz hv
  go_enter Tryz.func40, Tryz.ntmps40
  go_wp2
  obtain ⟨V, hV⟩ : ∃ V, V = w.alloc (.cells X 58) := ⟨_, rfl⟩
  rw [← hV] at HB BW
  rw [← hV]
  clear hV k4
  obtain ⟨Kx, hKx⟩ : ∃ Kx, Kx = w.heap.size := ⟨_, rfl⟩
  rw [← hKx] at HB ⊢
  have nK : Kx ≠ Q ∧ Kx ≠ A ∧ w.heap.size ≤ Kx := by omega
  clear hKx
  have h1 := h.below BW
  have R00 : PR Q N T W cm L cap y A Kx now sp id pa ta dr t l ps V := ⟨h1.1, h1.2.2.2.2.2.1, HB⟩
  have R0 : PR Q N T W cm L cap y A Kx now sp id pa ta dr t l ps V.drew := R00.below (Below.refl _ _).drew
  (refine wp_region_lead (PR Q N T W cm L cap y A Kx now sp id pa ta dr t l ps) [15] [0, 1, 2, 3, 4, 5, 6, 7, 8, 9, 10, 11, 12, 13, 14, 15, 16, 17, 18, 19, 20] _ (by kernel_rfl) (by kernel_rfl) (by kernel_rfl) (by simp only [List.filterMap_cons, List.getElem?_cons_zero, List.getElem?_cons_succ, Option.map_some, List.filterMap_nil]; rfl) rfl rfl R0 ?_)
  have e0 : ∀ g : Wits (PR Q N T W cm L cap y A Kx now sp id pa ta dr t l ps), g.w.cell? ⟨Q, 0, none⟩ = some (.pointer (some ⟨N, 0, none⟩)) := fun g => (Wits.is g).1.c0
  have e1 : ∀ g : Wits (PR Q N T W cm L cap y A Kx now sp id pa ta dr t l ps), g.w.cell? ⟨Q, 10, none⟩ = some (.int .i64 now) := fun g => (Wits.is g).1.c10
  have e2 : ∀ g : Wits (PR Q N T W cm L cap y A Kx now sp id pa ta dr t l ps), g.w.cell? ⟨y, 3, none⟩ = some (.int .i64 1) := fun g => (Wits.is g).2.1.cells.1
  have e3 : ∀ g : Wits (PR Q N T W cm L cap y A Kx now sp id pa ta dr t l ps), g.w.cell? ⟨y, 4, none⟩ = some (.int .i64 0) := fun g => (Wits.is g).2.1.cells.2.1
  have e4 : ∀ g : Wits (PR Q N T W cm L cap y A Kx now sp id pa ta dr t l ps), g.w.cell? ⟨y, 5, none⟩ = some (.int .i64 50) := fun g => (Wits.is g).2.1.cells.2.2.1
  have e5 : ∀ g : Wits (PR Q N T W cm L cap y A Kx now sp id pa ta dr t l ps), g.w.cell? ⟨Kx, 4, none⟩ = some (.int .i64 l) := fun g => (Wits.is g).2.2.c4
  (refine lead_quietB_n 15 rfl R0 ?_); (intro _); (simp only [List.take_succ_cons, List.take_zero, List.drop_succ_cons, List.drop_zero, List.map_cons, List.map_nil]); (repeat (go_big_quiet_step (fail))); (refine wpQuiet_nil ?_)
  clear e0 e1 e2 e3 e4 e5
  refine lead_one rfl ?_ R0
  have N0 : Nod1 (NO a b pl ph) N cz S c0 c1 c2 c3 V.drew := Nod1.below h1.2.2.2.2.2.2.2.1 (Below.refl _ _).drew
  go_wp2_with (go_at_call 67; (with_reducible refine (verdict_at (d0 := c0 + 1) (d1 := c1) (d2 := c2) (d3 := (c3 + 1)) HZ.out N0 hM b0 b1 b2 b3 HV.out rfl rfl (by show c1 + _ = _; simp [hit]) (by show c2 + _ = _; simp [hit]) (by show c3 + _ = _; simp [hit])).mono ?_); rintro en w2 ⟨rfl, N2, g2⟩)
  have G2 : ChgL (NO a b pl ph) V w2 := ⟨g2.os, g2.tape, g2.output, g2.size, g2.block⟩
  have nKx : ¬ NO a b pl ph Kx := fun e => by have := dK Kx (.inr (.inr (.inr e))); omega
  have R2 : PR Q N T W cm L cap y A Kx now sp id pa ta dr t l ps w2 := PR.chg R0 g2 nQ ny nKx
  refine ⟨rfl, R2, ?_⟩
  (refine lead_quietB_n 5 rfl R2 ?_); (intro _); (simp only [List.take_succ_cons, List.take_zero, List.drop_succ_cons, List.drop_zero, List.map_cons, List.map_nil]); (repeat (go_big_quiet_step (fail))); (refine wpQuiet_nil ?_)
  refine lead_nil ?_
  go_wp2
  have r19 := R2.1.c19
  have f19 := R2.1.froz 19
  have wr : IntKind.i64.wrap (dr + 1) = dr + 1 := IntWalk.i64_in _ (by omega)
  refine region_tail_b 9 (by kernel_rfl) (by kernel_rfl) rfl ?_
  simp only [List.take_succ_cons, List.take_zero, List.drop_succ_cons, List.drop_zero]
  (repeat (go_big_quiet_step (fail)))
  refine wpQuiet_nil ?_
  go_wp2
  obtain ⟨w3, h3⟩ : ∃ w3, w3 = (w2.setCell ⟨Q, 19, none⟩ (.int .i64 (dr + 1))).drew := ⟨_, rfl⟩
  have C23 : ChgL (fun j => j = Q) w2 w3 := by rw [h3]; exact ChgL.chg (((Chg.refl Q w2).setCell 19 _).drew) rfl
  have P3 : PlnRow w3 Q N T W cm (.slice (some ⟨L, 0, none⟩) 2 cap) 1 now sp id pa ta (dr + 1) := by rw [h3]; exact PlnRow.below R2.1.sDr (Below.refl _ _).drew
  rw [← h3]
  have N3 := N2.other C23 (fun j hj => by rw [hj]; exact nQ)
  have C03 : ChgL (fun j => j = Q ∨ NO a b pl ph j) w w3 := ((ChgL.of (BW.drew)).trans (g2.mono (fun j hj => .inr hj))).trans (C23.mono (fun j hj => .inl hj))
  have lK := h.2.2.1.lt
  clear h3
  go_ret
  have eK : w3.heap[K]? = w.heap[K]? := C03.block K lK (fun e => by rcases e with e | e; exact q1 e.symm; exact nK0 e)
  have eA : w3.heap[A]? = w.heap[A]? := C03.block A lA (fun e => by rcases e with e | e; exact q2 e.symm; exact nA e)
  have CM : ChgL (Mv Q K A a b pl ph) w w3 := C03.mono (fun j hj => by rcases hj with e | e; exact .inl e; exact .inr (.inr (.inr e)))
  exact ⟨rfl, h.step CM (fun j e => e) P3 (h.2.2.1.blk eK) (h.2.2.2.2.2.2.1.block eA) N3, CM⟩
theorem pass_tag (lo hi Q N T W cm L cap K y A a b pl ph : Nat) (cz : Pz) (S : S4) (c0 c1 c2 c3 rr rd : Int) (rc : Bool) (now sp id pa ta dr t l : Int) (ps : List Int) (X : Array Value) (w : World) (h : PlAt lo hi Q N T W cm L cap K y A a b pl ph cz S c0 c1 c2 c3 rr rd rc now sp id pa ta dr w) (hhi : hi ≤ w.heap.size) (hX : Hid (X = (cellV 0 0 40 t l ps).toArray)) (hlp : Hid (ps.length = 48)) (hbp : Hid (allB ps))
    (z : Bool) (hz : (l == 0) = z) (hM : S.Bd 2305843009213693952) (b0 : 0 ≤ c0 ∧ c0 ≤ 1000000) (b1 : 0 ≤ c1 ∧ c1 ≤ 1000000) (b2 : 0 ≤ c2 ∧ c2 ≤ 1000000) (b3 : 0 ≤ c3 ∧ c3 ≤ 1000000) (bc : 0 ≤ ta ∧ ta ≤ 1000000) (hv : cz.last S now z = 2) (hr : rightH false 0 0 50 t 1 = true) (n : Int) (hn : Hid (wordH false 0 0 50 t 1 = n)) :
    Calls Tryz.prog 40 #[.pointer (some ⟨Q, 0, none⟩), .pointer (some ⟨y, 0, none⟩), .agg X, .bool true] w fun e w' => (∃ r, e = .returned r ∧ OutAt w' w.heap.size r (cellZ n ps)) ∧ PlAt lo hi Q N T W cm L cap K y A a b pl ph cz (cz.nxt S now z) (c0 + 1) c1 (c2 + 1) c3 rr rd rc now sp id pa (ta + 1) dr w' ∧ ChgL (Mv Q K A a b pl ph) w w' := by
  have hsx : X.size = 53 := sizeX hX hlp.out
  have HB : CellAt (w.alloc (.cells X 58)) w.heap.size 0 0 40 t l ps := cellAt_new hX.out hlp.out hbp.out
  have BW : Below w.heap.size w (w.alloc (.cells X 58)) := (Below.refl _ _).alloc (Nat.le_refl _) _
  have k4 := HB.c4
  have Wy := h.2.2.2.2.2.1
  have Px := h.1
  obtain ⟨nQ, nK0, ny, nA, ⟨q1, q2, q3⟩, y1, y2, y3⟩ := h.apart
  have lQ := Px.lt
  have ly := Wy.lt
  have lA := h.2.2.2.2.2.2.1.lt
  have dK := h.mv
  have HZ := Lib.hid hz
  have HV := Lib.hid hv
  clear hz hv
  go_enter Tryz.func40, Tryz.ntmps40
  go_wp2
  obtain ⟨V, hV⟩ : ∃ V, V = w.alloc (.cells X 58) := ⟨_, rfl⟩
  rw [← hV] at HB BW
  rw [← hV]
  clear hV k4
  obtain ⟨Kx, hKx⟩ : ∃ Kx, Kx = w.heap.size := ⟨_, rfl⟩
  rw [← hKx] at HB ⊢
  have nK : Kx ≠ Q ∧ Kx ≠ A ∧ w.heap.size ≤ Kx := by omega
  clear hKx
  have h1 := h.below BW
  have R00 : PR Q N T W cm L cap y A Kx now sp id pa ta dr t l ps V := ⟨h1.1, h1.2.2.2.2.2.1, HB⟩
  have R0 : PR Q N T W cm L cap y A Kx now sp id pa ta dr t l ps V.drew := R00.below (Below.refl _ _).drew
  (refine wp_region_lead (PR Q N T W cm L cap y A Kx now sp id pa ta dr t l ps) [15] [0, 1, 2, 3, 4, 5, 6, 7, 8, 9, 10, 11, 12, 13, 14, 15, 16, 17, 18, 19, 20] _ (by kernel_rfl) (by kernel_rfl) (by kernel_rfl) (by simp only [List.filterMap_cons, List.getElem?_cons_zero, List.getElem?_cons_succ, Option.map_some, List.filterMap_nil]; rfl) rfl rfl R0 ?_)
  have e0 : ∀ g : Wits (PR Q N T W cm L cap y A Kx now sp id pa ta dr t l ps), g.w.cell? ⟨Q, 0, none⟩ = some (.pointer (some ⟨N, 0, none⟩)) := fun g => (Wits.is g).1.c0
  have e1 : ∀ g : Wits (PR Q N T W cm L cap y A Kx now sp id pa ta dr t l ps), g.w.cell? ⟨Q, 10, none⟩ = some (.int .i64 now) := fun g => (Wits.is g).1.c10
  have e2 : ∀ g : Wits (PR Q N T W cm L cap y A Kx now sp id pa ta dr t l ps), g.w.cell? ⟨y, 3, none⟩ = some (.int .i64 1) := fun g => (Wits.is g).2.1.cells.1
  have e3 : ∀ g : Wits (PR Q N T W cm L cap y A Kx now sp id pa ta dr t l ps), g.w.cell? ⟨y, 4, none⟩ = some (.int .i64 0) := fun g => (Wits.is g).2.1.cells.2.1
  have e4 : ∀ g : Wits (PR Q N T W cm L cap y A Kx now sp id pa ta dr t l ps), g.w.cell? ⟨y, 5, none⟩ = some (.int .i64 50) := fun g => (Wits.is g).2.1.cells.2.2.1
  have e5 : ∀ g : Wits (PR Q N T W cm L cap y A Kx now sp id pa ta dr t l ps), g.w.cell? ⟨Kx, 4, none⟩ = some (.int .i64 l) := fun g => (Wits.is g).2.2.c4
  (refine lead_quietB_n 15 rfl R0 ?_); (intro _); (simp only [List.take_succ_cons, List.take_zero, List.drop_succ_cons, List.drop_zero, List.map_cons, List.map_nil]); (repeat (go_big_quiet_step (fail))); (refine wpQuiet_nil ?_)
  clear e0 e1 e2 e3 e4 e5
  refine lead_one rfl ?_ R0
  have N0 : Nod1 (NO a b pl ph) N cz S c0 c1 c2 c3 V.drew := Nod1.below h1.2.2.2.2.2.2.2.1 (Below.refl _ _).drew
  go_wp2_with (go_at_call 67; (with_reducible refine (verdict_at (d0 := c0 + 1) (d1 := c1) (d2 := (c2 + 1)) (d3 := c3) HZ.out N0 hM b0 b1 b2 b3 HV.out rfl rfl (by show c1 + _ = _; simp [hit]) (by show c2 + _ = _; simp [hit]) (by show c3 + _ = _; simp [hit])).mono ?_); rintro en w2 ⟨rfl, N2, g2⟩)
  have G2 : ChgL (NO a b pl ph) V w2 := ⟨g2.os, g2.tape, g2.output, g2.size, g2.block⟩
  have nKx : ¬ NO a b pl ph Kx := fun e => by have := dK Kx (.inr (.inr (.inr e))); omega
  have R2 : PR Q N T W cm L cap y A Kx now sp id pa ta dr t l ps w2 := PR.chg R0 g2 nQ ny nKx
  refine ⟨rfl, R2, ?_⟩
  (refine lead_quietB_n 5 rfl R2 ?_); (intro _); (simp only [List.take_succ_cons, List.take_zero, List.drop_succ_cons, List.drop_zero, List.map_cons, List.map_nil]); (repeat (go_big_quiet_step (fail))); (refine wpQuiet_nil ?_)
  refine lead_nil ?_
  go_wp2
  have r18 := R2.1.c18
  have f18 := R2.1.froz 18
  have wr : IntKind.i64.wrap (ta + 1) = ta + 1 := IntWalk.i64_in _ (by omega)
  refine region_tail_b 9 (by kernel_rfl) (by kernel_rfl) rfl ?_
  simp only [List.take_succ_cons, List.take_zero, List.drop_succ_cons, List.drop_zero]
  (repeat (go_big_quiet_step (fail)))
  refine wpQuiet_nil ?_
  go_wp2
  obtain ⟨w3, h3⟩ : ∃ w3, w3 = (w2.setCell ⟨Q, 18, none⟩ (.int .i64 (ta + 1))).drew := ⟨_, rfl⟩
  have C23 : ChgL (fun j => j = Q) w2 w3 := by rw [h3]; exact ChgL.chg (((Chg.refl Q w2).setCell 18 _).drew) rfl
  have P3 : PlnRow w3 Q N T W cm (.slice (some ⟨L, 0, none⟩) 2 cap) 1 now sp id pa (ta + 1) dr := by rw [h3]; exact PlnRow.below R2.1.sTa (Below.refl _ _).drew
  rw [← h3]
  have N3 := N2.other C23 (fun j hj => by rw [hj]; exact nQ)
  have C03 : ChgL (fun j => j = Q ∨ NO a b pl ph j) w w3 := ((ChgL.of (BW.drew)).trans (g2.mono (fun j hj => .inr hj))).trans (C23.mono (fun j hj => .inl hj))
  have lK := h.2.2.1.lt
  have R3 : PR Q N T W cm L cap y A Kx now sp id pa (ta + 1) dr t l ps w3 := R2.row C23 P3 y1 nK.1
  have A2 : AlmAt w3 A := h.2.2.2.2.2.2.1.block (C03.block A lA (fun e => by rcases e with e | e; exact q2 e.symm; exact nA e))
  clear h3 R2 N2 R0 N0 h1 R00 r18 f18
  go_wp2
  have R3d : PR Q N T W cm L cap y A Kx now sp id pa (ta + 1) dr t l ps w3.drew := R3.below (Below.refl _ _).drew
  (refine wp_region_lead (PR Q N T W cm L cap y A Kx now sp id pa (ta + 1) dr t l ps) [8] [0, 1, 2, 3, 4, 5, 6, 7, 8] _ (by kernel_rfl) (by kernel_rfl) (by kernel_rfl) (by simp only [List.filterMap_cons, List.getElem?_cons_zero, List.getElem?_cons_succ, Option.map_some, List.filterMap_nil]; rfl) rfl rfl R3d ?_)
  have e0 : ∀ g : Wits (PR Q N T W cm L cap y A Kx now sp id pa (ta + 1) dr t l ps), g.w.cell? ⟨y, 6, none⟩ = some (.pointer (some ⟨A, 0, none⟩)) := fun g => (Wits.is g).2.1.cells.2.2.2
  have e1 : ∀ g : Wits (PR Q N T W cm L cap y A Kx now sp id pa (ta + 1) dr t l ps), g.w.cell? ⟨Q, 10, none⟩ = some (.int .i64 now) := fun g => (Wits.is g).1.c10
  (refine lead_quietB_n 8 rfl R3d ?_); (intro _); (simp only [List.take_succ_cons, List.take_zero, List.drop_succ_cons, List.drop_zero, List.map_cons, List.map_nil]); (repeat (go_big_quiet_step (fail))); (refine wpQuiet_nil ?_)
  clear e0 e1
  refine lead_one rfl ?_ R3d
  have A2d : AlmAt w3.drew A := A2.below (Below.refl _ _).drew
  go_wp2_with (go_at_call 68; (with_reducible refine (user_any A now _ A2d).mono ?_); rintro en w4 ⟨rfl, A4, c4⟩)
  have C34 : ChgL (fun j => j = A) w3 w4 := ⟨c4.os, c4.tape, c4.output, c4.size, c4.block⟩
  have R4 : PR Q N T W cm L cap y A Kx now sp id pa (ta + 1) dr t l ps w4 := R3.chg C34 q2 y3 nK.2.1
  have N4 := N3.other C34 (fun j hj => by rw [hj]; exact nA)
  refine ⟨rfl, R4, ?_⟩
  refine lead_nil ?_
  go_wp2
  have R4d : PR Q N T W cm L cap y A Kx now sp id pa (ta + 1) dr t l ps w4.drew := R4.below (Below.refl _ _).drew
  obtain ⟨Y, hY⟩ : ∃ Y, Hid (Y = (u8s ps).toArray) := ⟨_, rfl⟩
  have hsy : Y.size = 48 := sizeP hY hlp.out
  (refine wp_region_lead (PR Q N T W cm L cap y A Kx now sp id pa (ta + 1) dr t l ps) [10, 11] [0, 1, 2, 3, 4, 5, 6, 7, 8, 9, 10, 11, 12] _ (by kernel_rfl) (by kernel_rfl) (by kernel_rfl) (by simp only [List.filterMap_cons, List.getElem?_cons_zero, List.getElem?_cons_succ, Option.map_some, List.filterMap_nil]; rfl) rfl rfl R4d ?_)
  have e0 : ∀ g : Wits (PR Q N T W cm L cap y A Kx now sp id pa (ta + 1) dr t l ps), g.w.cell? ⟨y, 3, none⟩ = some (.int .i64 1) := fun g => (Wits.is g).2.1.cells.1
  have e1 : ∀ g : Wits (PR Q N T W cm L cap y A Kx now sp id pa (ta + 1) dr t l ps), g.w.cell? ⟨y, 4, none⟩ = some (.int .i64 0) := fun g => (Wits.is g).2.1.cells.2.1
  have e2 : ∀ g : Wits (PR Q N T W cm L cap y A Kx now sp id pa (ta + 1) dr t l ps), g.w.cell? ⟨y, 5, none⟩ = some (.int .i64 50) := fun g => (Wits.is g).2.1.cells.2.2.1
  have e3 : ∀ g : Wits (PR Q N T W cm L cap y A Kx now sp id pa (ta + 1) dr t l ps), g.w.cell? ⟨Kx, 3, none⟩ = some (.int .i64 t) := fun g => (Wits.is g).2.2.c3
  refine lead_quietB_n 10 rfl R4d ?_
  intro _
  (simp only [List.take_succ_cons, List.take_zero, List.drop_succ_cons, List.drop_zero, List.map_cons, List.map_nil])
  go_big_quiet_step (fail)
  go_big_quiet_step (fail)
  go_big_quiet_step (fail)
  go_big_quiet_step (fail)
  go_big_quiet_step (fail)
  go_big_quiet_step (fail)
  go_big_quiet_step (fail)
  go_big_quiet_step (fail)
  go_big_quiet_step (fail)
  refine wpQuiet_load48X Y (by simp [Region.wanted, yielded]) ⟨_, _, rfl, hsy, fun w' hw' => (by obtain ⟨g, rfl⟩ := hw'; exact range_of (Wits.is g).2.2.row hY)⟩ ?_
  simp only [Act.put, List.setIfInBounds_toArray, List.set_cons_succ, List.set_cons_zero]
  (refine wpQuiet_nil ?_)
  clear e0 e1 e2 e3
  refine lead_one rfl ?_ R4d
  go_wp2_with (go_at_call 66; (with_reducible refine (send_any t 1 n ps Y _ hY hlp hbp hr hn).mono ?_); rintro en w5 ⟨bo, co, rfl, hc, hb⟩)
  have R5 := R4d.below hb
  refine ⟨rfl, R5, ?_⟩
  refine lead_one rfl ?_ R5
  have b6 : Below w5.heap.size w5 (w5.alloc (.cells #[.int .i64 1, .slice (some ⟨bo, 0, none⟩) 53 co] 42)) := (Below.refl _ _).alloc (Nat.le_refl _) _
  have o0 : (w5.alloc (.cells #[.int .i64 1, .slice (some ⟨bo, 0, none⟩) 53 co] 42)).cell? ⟨w5.heap.size, 0, none⟩ = some (.int .i64 1) := cell_top rfl rfl
  have o1 : (w5.alloc (.cells #[.int .i64 1, .slice (some ⟨bo, 0, none⟩) 53 co] 42)).cell? ⟨w5.heap.size, 1, none⟩ = some (.slice (some ⟨bo, 0, none⟩) 53 co) := cell_top rfl rfl
  go_wp2
  have R6 := R5.below b6
  refine ⟨rfl, R6, ?_⟩
  (refine lead_quietB_n 1 rfl R6 ?_); (intro _); (simp only [List.take_succ_cons, List.take_zero, List.drop_succ_cons, List.drop_zero, List.map_cons, List.map_nil]); (repeat (go_big_quiet_step (fail))); (refine wpQuiet_nil ?_)
  refine lead_nil ?_
  go_wp2
  go_ret
  have B46 : Below w4.heap.size w4 (w5.alloc (.cells #[.int .i64 1, .slice (some ⟨bo, 0, none⟩) 53 co] 42)) := ((Below.refl _ _).drew.trans hb).trans (b6.mono hb.size)
  have z4 : w.heap.size ≤ w4.heap.size := Nat.le_trans C03.size C34.size
  have z5 : w4.heap.size ≤ w5.heap.size := hb.size
  have C04 : ChgL (fun j => j = Q ∨ j = A ∨ NO a b pl ph j) w w4 := (C03.mono (fun j hj => by rcases hj with e | e; exact .inl e; exact .inr (.inr e))).trans (C34.mono (fun j hj => .inr (.inl hj)))
  have eK : w4.heap[K]? = w.heap[K]? := C04.block K lK (fun e => by rcases e with e | e | e; exact q1 e.symm; exact q3 e; exact nK0 e)
  have CM : ChgL (Mv Q K A a b pl ph) w w4 := C04.mono (fun j hj => by rcases hj with e | e | e; exact .inl e; exact .inr (.inr (.inl e)); exact .inr (.inr (.inr e)))
  have F4 := (h.step CM (fun j e => e) R4.1 (h.2.2.1.blk eK) A4 N4).below B46
  exact ⟨⟨_, rfl, ⟨w5.heap.size, bo, co, rfl, o0, o1, ⟨hc.bytes.below b6, hc.cap1, hc.cap2, Nat.le_trans z4 hc.low⟩, by omega⟩⟩, F4, CM.trans (ChgL.of B46)⟩
theorem pass_pass (lo hi Q N T W cm L cap K y A a b pl ph : Nat) (cz : Pz) (S : S4) (c0 c1 c2 c3 rr rd : Int) (rc : Bool) (now sp id pa ta dr t l : Int) (ps : List Int) (X : Array Value) (w : World) (h : PlAt lo hi Q N T W cm L cap K y A a b pl ph cz S c0 c1 c2 c3 rr rd rc now sp id pa ta dr w) (hhi : hi ≤ w.heap.size) (hX : Hid (X = (cellV 0 0 40 t l ps).toArray)) (hlp : Hid (ps.length = 48)) (hbp : Hid (allB ps))
    (z : Bool) (hz : (l == 0) = z) (hM : S.Bd 2305843009213693952) (b0 : 0 ≤ c0 ∧ c0 ≤ 1000000) (b1 : 0 ≤ c1 ∧ c1 ≤ 1000000) (b2 : 0 ≤ c2 ∧ c2 ≤ 1000000) (b3 : 0 ≤ c3 ∧ c3 ≤ 1000000) (bc : 0 ≤ pa ∧ pa ≤ 1000000) (hv : cz.last S now z = 1) (hr : rightH false 0 0 50 t l = true) (n : Int) (hn : Hid (wordH false 0 0 50 t l = n)) :
    Calls Tryz.prog 40 #[.pointer (some ⟨Q, 0, none⟩), .pointer (some ⟨y, 0, none⟩), .agg X, .bool true] w fun e w' => (∃ r, e = .returned r ∧ OutAt w' w.heap.size r (cellZ n ps)) ∧ PlAt lo hi Q N T W cm L cap K y A a b pl ph cz (cz.nxt S now z) (c0 + 1) (c1 + 1) c2 c3 rr rd rc now sp id (pa + 1) ta dr w' ∧ ChgL (Mv Q K A a b pl ph) w w' := by
  have hsx : X.size = 53 := sizeX hX hlp.out
  have HB : CellAt (w.alloc (.cells X 58)) w.heap.size 0 0 40 t l ps := cellAt_new hX.out hlp.out hbp.out
  have BW : Below w.heap.size w (w.alloc (.cells X 58)) := (Below.refl _ _).alloc (Nat.le_refl _) _
  have k4 := HB.c4
  have Wy := h.2.2.2.2.2.1
  have Px := h.1
  obtain ⟨nQ, nK0, ny, nA, ⟨q1, q2, q3⟩, y1, y2, y3⟩ := h.apart
  have lQ := Px.lt
  have ly := Wy.lt
  have lA := h.2.2.2.2.2.2.1.lt
  have dK := h.mv
  have HZ := Lib.hid hz
  have HV := Lib.hid hv
  clear hz hv
  go_enter Tryz.func40, Tryz.ntmps40
  go_wp2
  obtain ⟨V, hV⟩ : ∃ V, V = w.alloc (.cells X 58) := ⟨_, rfl⟩
  rw [← hV] at HB BW
  rw [← hV]
  clear hV k4
  obtain ⟨Kx, hKx⟩ : ∃ Kx, Kx = w.heap.size := ⟨_, rfl⟩
  rw [← hKx] at HB ⊢
  have nK : Kx ≠ Q ∧ Kx ≠ A ∧ w.heap.size ≤ Kx := by omega
  clear hKx
  have h1 := h.below BW
  have R00 : PR Q N T W cm L cap y A Kx now sp id pa ta dr t l ps V := ⟨h1.1, h1.2.2.2.2.2.1, HB⟩
  have R0 : PR Q N T W cm L cap y A Kx now sp id pa ta dr t l ps V.drew := R00.below (Below.refl _ _).drew
  (refine wp_region_lead (PR Q N T W cm L cap y A Kx now sp id pa ta dr t l ps) [15] [0, 1, 2, 3, 4, 5, 6, 7, 8, 9, 10, 11, 12, 13, 14, 15, 16, 17, 18, 19, 20] _ (by kernel_rfl) (by kernel_rfl) (by kernel_rfl) (by simp only [List.filterMap_cons, List.getElem?_cons_zero, List.getElem?_cons_succ, Option.map_some, List.filterMap_nil]; rfl) rfl rfl R0 ?_)
  have e0 : ∀ g : Wits (PR Q N T W cm L cap y A Kx now sp id pa ta dr t l ps), g.w.cell? ⟨Q, 0, none⟩ = some (.pointer (some ⟨N, 0, none⟩)) := fun g => (Wits.is g).1.c0
  have e1 : ∀ g : Wits (PR Q N T W cm L cap y A Kx now sp id pa ta dr t l ps), g.w.cell? ⟨Q, 10, none⟩ = some (.int .i64 now) := fun g => (Wits.is g).1.c10
  have e2 : ∀ g : Wits (PR Q N T W cm L cap y A Kx now sp id pa ta dr t l ps), g.w.cell? ⟨y, 3, none⟩ = some (.int .i64 1) := fun g => (Wits.is g).2.1.cells.1
  have e3 : ∀ g : Wits (PR Q N T W cm L cap y A Kx now sp id pa ta dr t l ps), g.w.cell? ⟨y, 4, none⟩ = some (.int .i64 0) := fun g => (Wits.is g).2.1.cells.2.1
  have e4 : ∀ g : Wits (PR Q N T W cm L cap y A Kx now sp id pa ta dr t l ps), g.w.cell? ⟨y, 5, none⟩ = some (.int .i64 50) := fun g => (Wits.is g).2.1.cells.2.2.1
  have e5 : ∀ g : Wits (PR Q N T W cm L cap y A Kx now sp id pa ta dr t l ps), g.w.cell? ⟨Kx, 4, none⟩ = some (.int .i64 l) := fun g => (Wits.is g).2.2.c4
  (refine lead_quietB_n 15 rfl R0 ?_); (intro _); (simp only [List.take_succ_cons, List.take_zero, List.drop_succ_cons, List.drop_zero, List.map_cons, List.map_nil]); (repeat (go_big_quiet_step (fail))); (refine wpQuiet_nil ?_)
  clear e0 e1 e2 e3 e4 e5
  refine lead_one rfl ?_ R0
  have N0 : Nod1 (NO a b pl ph) N cz S c0 c1 c2 c3 V.drew := Nod1.below h1.2.2.2.2.2.2.2.1 (Below.refl _ _).drew
  go_wp2_with (go_at_call 67; (with_reducible refine (verdict_at (d0 := c0 + 1) (d1 := (c1 + 1)) (d2 := c2) (d3 := c3) HZ.out N0 hM b0 b1 b2 b3 HV.out rfl rfl (by show c1 + _ = _; simp [hit]) (by show c2 + _ = _; simp [hit]) (by show c3 + _ = _; simp [hit])).mono ?_); rintro en w2 ⟨rfl, N2, g2⟩)
  have G2 : ChgL (NO a b pl ph) V w2 := ⟨g2.os, g2.tape, g2.output, g2.size, g2.block⟩
  have nKx : ¬ NO a b pl ph Kx := fun e => by have := dK Kx (.inr (.inr (.inr e))); omega
  have R2 : PR Q N T W cm L cap y A Kx now sp id pa ta dr t l ps w2 := PR.chg R0 g2 nQ ny nKx
  refine ⟨rfl, R2, ?_⟩
  (refine lead_quietB_n 5 rfl R2 ?_); (intro _); (simp only [List.take_succ_cons, List.take_zero, List.drop_succ_cons, List.drop_zero, List.map_cons, List.map_nil]); (repeat (go_big_quiet_step (fail))); (refine wpQuiet_nil ?_)
  refine lead_nil ?_
  go_wp2
  have r17 := R2.1.c17
  have f17 := R2.1.froz 17
  have wr : IntKind.i64.wrap (pa + 1) = pa + 1 := IntWalk.i64_in _ (by omega)
  refine region_tail_b 9 (by kernel_rfl) (by kernel_rfl) rfl ?_
  simp only [List.take_succ_cons, List.take_zero, List.drop_succ_cons, List.drop_zero]
  (repeat (go_big_quiet_step (fail)))
  refine wpQuiet_nil ?_
  go_wp2
  obtain ⟨w3, h3⟩ : ∃ w3, w3 = (w2.setCell ⟨Q, 17, none⟩ (.int .i64 (pa + 1))).drew := ⟨_, rfl⟩
  have C23 : ChgL (fun j => j = Q) w2 w3 := by rw [h3]; exact ChgL.chg (((Chg.refl Q w2).setCell 17 _).drew) rfl
  have P3 : PlnRow w3 Q N T W cm (.slice (some ⟨L, 0, none⟩) 2 cap) 1 now sp id (pa + 1) ta dr := by rw [h3]; exact PlnRow.below R2.1.sPa (Below.refl _ _).drew
  rw [← h3]
  have N3 := N2.other C23 (fun j hj => by rw [hj]; exact nQ)
  have C03 : ChgL (fun j => j = Q ∨ NO a b pl ph j) w w3 := ((ChgL.of (BW.drew)).trans (g2.mono (fun j hj => .inr hj))).trans (C23.mono (fun j hj => .inl hj))
  have lK := h.2.2.1.lt
  have R3 : PR Q N T W cm L cap y A Kx now sp id (pa + 1) ta dr t l ps w3 := R2.row C23 P3 y1 nK.1
  have A2 : AlmAt w3 A := h.2.2.2.2.2.2.1.block (C03.block A lA (fun e => by rcases e with e | e; exact q2 e.symm; exact nA e))
  clear h3 R2 N2 R0 N0 h1 R00 r17 f17
  go_wp2
  have R3d : PR Q N T W cm L cap y A Kx now sp id (pa + 1) ta dr t l ps w3.drew := R3.below (Below.refl _ _).drew
  (refine wp_region_lead (PR Q N T W cm L cap y A Kx now sp id (pa + 1) ta dr t l ps) [8] [0, 1, 2, 3, 4, 5, 6, 7, 8] _ (by kernel_rfl) (by kernel_rfl) (by kernel_rfl) (by simp only [List.filterMap_cons, List.getElem?_cons_zero, List.getElem?_cons_succ, Option.map_some, List.filterMap_nil]; rfl) rfl rfl R3d ?_)
  have e0 : ∀ g : Wits (PR Q N T W cm L cap y A Kx now sp id (pa + 1) ta dr t l ps), g.w.cell? ⟨y, 6, none⟩ = some (.pointer (some ⟨A, 0, none⟩)) := fun g => (Wits.is g).2.1.cells.2.2.2
  have e1 : ∀ g : Wits (PR Q N T W cm L cap y A Kx now sp id (pa + 1) ta dr t l ps), g.w.cell? ⟨Q, 10, none⟩ = some (.int .i64 now) := fun g => (Wits.is g).1.c10
  (refine lead_quietB_n 8 rfl R3d ?_); (intro _); (simp only [List.take_succ_cons, List.take_zero, List.drop_succ_cons, List.drop_zero, List.map_cons, List.map_nil]); (repeat (go_big_quiet_step (fail))); (refine wpQuiet_nil ?_)
  clear e0 e1
  refine lead_one rfl ?_ R3d
  have A2d : AlmAt w3.drew A := A2.below (Below.refl _ _).drew
  go_wp2_with (go_at_call 68; (with_reducible refine (user_any A now _ A2d).mono ?_); rintro en w4 ⟨rfl, A4, c4⟩)
  have C34 : ChgL (fun j => j = A) w3 w4 := ⟨c4.os, c4.tape, c4.output, c4.size, c4.block⟩
  have R4 : PR Q N T W cm L cap y A Kx now sp id (pa + 1) ta dr t l ps w4 := R3.chg C34 q2 y3 nK.2.1
  have N4 := N3.other C34 (fun j hj => by rw [hj]; exact nA)
  refine ⟨rfl, R4, ?_⟩
  refine lead_nil ?_
  go_wp2
  have R4d : PR Q N T W cm L cap y A Kx now sp id (pa + 1) ta dr t l ps w4.drew := R4.below (Below.refl _ _).drew
  obtain ⟨Y, hY⟩ : ∃ Y, Hid (Y = (u8s ps).toArray) := ⟨_, rfl⟩
  have hsy : Y.size = 48 := sizeP hY hlp.out
  (refine wp_region_lead (PR Q N T W cm L cap y A Kx now sp id (pa + 1) ta dr t l ps) [10, 11] [0, 1, 2, 3, 4, 5, 6, 7, 8, 9, 10, 11, 12] _ (by kernel_rfl) (by kernel_rfl) (by kernel_rfl) (by simp only [List.filterMap_cons, List.getElem?_cons_zero, List.getElem?_cons_succ, Option.map_some, List.filterMap_nil]; rfl) rfl rfl R4d ?_)
  have e0 : ∀ g : Wits (PR Q N T W cm L cap y A Kx now sp id (pa + 1) ta dr t l ps), g.w.cell? ⟨y, 3, none⟩ = some (.int .i64 1) := fun g => (Wits.is g).2.1.cells.1
  have e1 : ∀ g : Wits (PR Q N T W cm L cap y A Kx now sp id (pa + 1) ta dr t l ps), g.w.cell? ⟨y, 4, none⟩ = some (.int .i64 0) := fun g => (Wits.is g).2.1.cells.2.1
  have e2 : ∀ g : Wits (PR Q N T W cm L cap y A Kx now sp id (pa + 1) ta dr t l ps), g.w.cell? ⟨y, 5, none⟩ = some (.int .i64 50) := fun g => (Wits.is g).2.1.cells.2.2.1
  have e3 : ∀ g : Wits (PR Q N T W cm L cap y A Kx now sp id (pa + 1) ta dr t l ps), g.w.cell? ⟨Kx, 3, none⟩ = some (.int .i64 t) := fun g => (Wits.is g).2.2.c3
  refine lead_quietB_n 10 rfl R4d ?_
  intro _
  (simp only [List.take_succ_cons, List.take_zero, List.drop_succ_cons, List.drop_zero, List.map_cons, List.map_nil])
  go_big_quiet_step (fail)
  go_big_quiet_step (fail)
  go_big_quiet_step (fail)
  go_big_quiet_step (fail)
  go_big_quiet_step (fail)
  go_big_quiet_step (fail)
  go_big_quiet_step (fail)
  go_big_quiet_step (fail)
  go_big_quiet_step (fail)
  refine wpQuiet_load48X Y (by simp [Region.wanted, yielded]) ⟨_, _, rfl, hsy, fun w' hw' => (by obtain ⟨g, rfl⟩ := hw'; exact range_of (Wits.is g).2.2.row hY)⟩ ?_
  simp only [Act.put, List.setIfInBounds_toArray, List.set_cons_succ, List.set_cons_zero]
  (refine wpQuiet_nil ?_)
  clear e0 e1 e2 e3
  refine lead_one rfl ?_ R4d
  go_wp2_with (go_at_call 66; (with_reducible refine (send_any t l n ps Y _ hY hlp hbp hr hn).mono ?_); rintro en w5 ⟨bo, co, rfl, hc, hb⟩)
  have R5 := R4d.below hb
  refine ⟨rfl, R5, ?_⟩
  refine lead_one rfl ?_ R5
  have b6 : Below w5.heap.size w5 (w5.alloc (.cells #[.int .i64 1, .slice (some ⟨bo, 0, none⟩) 53 co] 42)) := (Below.refl _ _).alloc (Nat.le_refl _) _
  have o0 : (w5.alloc (.cells #[.int .i64 1, .slice (some ⟨bo, 0, none⟩) 53 co] 42)).cell? ⟨w5.heap.size, 0, none⟩ = some (.int .i64 1) := cell_top rfl rfl
  have o1 : (w5.alloc (.cells #[.int .i64 1, .slice (some ⟨bo, 0, none⟩) 53 co] 42)).cell? ⟨w5.heap.size, 1, none⟩ = some (.slice (some ⟨bo, 0, none⟩) 53 co) := cell_top rfl rfl
  go_wp2
  have R6 := R5.below b6
  refine ⟨rfl, R6, ?_⟩
  (refine lead_quietB_n 1 rfl R6 ?_); (intro _); (simp only [List.take_succ_cons, List.take_zero, List.drop_succ_cons, List.drop_zero, List.map_cons, List.map_nil]); (repeat (go_big_quiet_step (fail))); (refine wpQuiet_nil ?_)
  refine lead_nil ?_
  go_wp2
  go_ret
  have B46 : Below w4.heap.size w4 (w5.alloc (.cells #[.int .i64 1, .slice (some ⟨bo, 0, none⟩) 53 co] 42)) := ((Below.refl _ _).drew.trans hb).trans (b6.mono hb.size)
  have z4 : w.heap.size ≤ w4.heap.size := Nat.le_trans C03.size C34.size
  have z5 : w4.heap.size ≤ w5.heap.size := hb.size
  have C04 : ChgL (fun j => j = Q ∨ j = A ∨ NO a b pl ph j) w w4 := (C03.mono (fun j hj => by rcases hj with e | e; exact .inl e; exact .inr (.inr e))).trans (C34.mono (fun j hj => .inr (.inl hj)))
  have eK : w4.heap[K]? = w.heap[K]? := C04.block K lK (fun e => by rcases e with e | e | e; exact q1 e.symm; exact q3 e; exact nK0 e)
  have CM : ChgL (Mv Q K A a b pl ph) w w4 := C04.mono (fun j hj => by rcases hj with e | e | e; exact .inl e; exact .inr (.inr (.inl e)); exact .inr (.inr (.inr e)))
  have F4 := (h.step CM (fun j e => e) R4.1 (h.2.2.1.blk eK) A4 N4).below B46
  exact ⟨⟨_, rfl, ⟨w5.heap.size, bo, co, rfl, o0, o1, ⟨hc.bytes.below b6, hc.cap1, hc.cap2, Nat.le_trans z4 hc.low⟩, by omega⟩⟩, F4, CM.trans (ChgL.of B46)⟩
end Go.Proofs.YtaoagbnhomjkpaaGreat
