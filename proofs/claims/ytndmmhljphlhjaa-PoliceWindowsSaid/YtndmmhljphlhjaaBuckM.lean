/- The layer 'bucket': a world in which one block alone may have turned; what a bucket reckons. -/
import Derived.Test.YtndmmhljphlhjaaKit3
import Derived.WalkLawsBesides
import Derived.StillTailTactics
import Derived.IntWalk
namespace Go.Proofs.Ytndmmhljphlhjaa
set_option linter.unusedVariables false
set_option linter.unusedSimpArgs false
open Go.RowKit
set_option maxRecDepth 100000
set_option maxHeartbeats 4000000
/-- of what was there, block b alone may have turned. -/
structure Chg (b : Nat) (w w' : World) : Prop where
  os : w'.os = w.os
  tape : w'.tape = w.tape
  output : w'.output = w.output
  size : w.heap.size ≤ w'.heap.size
  block : ∀ k, k < w.heap.size → k ≠ b → w'.heap[k]? = w.heap[k]?
theorem Chg.refl (b : Nat) (w : World) : Chg b w w := ⟨rfl, rfl, rfl, Nat.le_refl _, fun _ _ _ => rfl⟩
theorem Chg.trans {b : Nat} {w w1 w2 : World} (h : Chg b w w1) (k : Chg b w1 w2) : Chg b w w2 :=
  ⟨k.os.trans h.os, k.tape.trans h.tape, k.output.trans h.output, Nat.le_trans h.size k.size, fun j hj hn => (k.block j (Nat.lt_of_lt_of_le hj h.size) hn).trans (h.block j hj hn)⟩
theorem Chg.of {b : Nat} {w w' : World} (h : Below w.heap.size w w') : Chg b w w' := ⟨h.os, h.tape, h.output, h.size, fun k hk _ => h.block k hk⟩
theorem Chg.setCell {b : Nat} {w w' : World} (h : Chg b w w') (o : Nat) (v : Value) : Chg b w (w'.setCell ⟨b, o, none⟩ v) :=
  ⟨h.os, h.tape, h.output, by simpa using h.size, fun k hk hn => (Below.heap_setCell w' ⟨b, o, none⟩ v k hn).trans (h.block k hk hn)⟩
theorem Chg.drewN {b : Nat} {w w' : World} (h : Chg b w w') (n : Nat) : Chg b w (w'.drewN n) := ⟨h.os, h.tape, h.output, h.size, h.block⟩
theorem Chg.drew {b : Nat} {w w' : World} (h : Chg b w w') : Chg b w w'.drew := ⟨h.os, h.tape, h.output, h.size, h.block⟩
theorem Chg.below {b B : Nat} {w w' : World} (h : Chg b w w') (hb : B ≤ b) (hB : B ≤ w.heap.size) : Below B w w' :=
  ⟨h.os, h.tape, h.output, h.size, fun k hk => h.block k (by omega) (by omega)⟩
theorem Chg.cell {b : Nat} {w w' : World} (h : Chg b w w') {k o : Nat} {v : Value} (hk : k ≠ b) (hv : w.cell? ⟨k, o, none⟩ = some v) : w'.cell? ⟨k, o, none⟩ = some v :=
  (World.cell?_of_block (w := w) (h.block k (World.block_lt_of_cell? w _ hv) hk)).trans hv
/-- a bucket, in a block of its own. -/
def BuckAt (w : World) (b : Nat) (s e n : Int) (a : Bool) : Prop := w.heap[b]? = some (.cells #[.int .i64 s, .int .i64 e, .int .i64 n, .bool a] 68)
theorem BuckAt.lt {w : World} {b : Nat} {s e n : Int} {a : Bool} (h : BuckAt w b s e n a) : b < w.heap.size := by
  unfold BuckAt at h
  rcases Nat.lt_or_ge b w.heap.size with h' | h'
  · exact h'
  · simp [Array.getElem?_eq_none h'] at h
theorem BuckAt.cells {w : World} {b : Nat} {s e n : Int} {a : Bool} (h : BuckAt w b s e n a) :
    w.cell? ⟨b, 0, none⟩ = some (.int .i64 s) ∧ w.cell? ⟨b, 1, none⟩ = some (.int .i64 e) ∧ w.cell? ⟨b, 2, none⟩ = some (.int .i64 n) ∧ w.cell? ⟨b, 3, none⟩ = some (.bool a) ∧ ∀ o, w.frozen? ⟨b, o, none⟩ = false := by
  unfold BuckAt at h
  refine ⟨?_, ?_, ?_, ?_, fun o => frozen_of_row w b o _ _ h⟩ <;> rw [cell_of_row w b _ _ _ _ h] <;> rfl
theorem BuckAt.other {w w' : World} {b c : Nat} {s e n : Int} {a : Bool} (h : BuckAt w b s e n a) (hc : Chg c w w') (hn : b ≠ c) : BuckAt w' b s e n a := (hc.block b h.lt hn).trans h
theorem BuckAt.below {w w' : World} {b : Nat} {s e n : Int} {a : Bool} (h : BuckAt w b s e n a) (hb : Below w.heap.size w w') : BuckAt w' b s e n a := (hb.block b h.lt).trans h
theorem BuckAt.drewN {w : World} {b : Nat} {s e n : Int} {a : Bool} (h : BuckAt w b s e n a) (m : Nat) : BuckAt (w.drewN m) b s e n a := h
theorem BuckAt.set {w : World} {b : Nat} {s e n n' : Int} {a : Bool} (h : BuckAt w b s e n a) : BuckAt (w.setCell ⟨b, 2, none⟩ (.int .i64 n')) b s e n' a :=
  heap_setCell_same w b 2 _ _ _ h
theorem BuckAt.set3 {w : World} {b : Nat} {s e n : Int} {a a' : Bool} (h : BuckAt w b s e n a) : BuckAt (w.setCell ⟨b, 3, none⟩ (.bool a')) b s e n a' :=
  heap_setCell_same w b 3 _ _ _ h
def clampZ (x lo hi : Int) : Int := max lo (min x hi)
theorem clampZ_in {x lo hi : Int} (h : lo ≤ hi) : lo ≤ clampZ x lo hi ∧ clampZ x lo hi ≤ hi := by unfold clampZ; omega
theorem clampZ_id {x lo hi : Int} (h0 : lo ≤ x) (h1 : x ≤ hi) : clampZ x lo hi = x := by unfold clampZ; omega
theorem clampZ_eq {x lo hi : Int} (h0 : lo ≤ x) (h1 : x ≤ hi) : clampZ x lo hi = x := clampZ_id h0 h1
theorem within_any (x lo hi : Int) (w : World) : Calls Try.prog 37 #[.int .i64 x, .int .i64 lo, .int .i64 hi] w fun e w' => e = .returned (.int .i64 (clampZ x lo hi)) ∧ w = w' := by
  go_enter Try.func37, Try.ntmps37
  go_wp2
  all_goals
    go_ret
    go_light
    refine ⟨ret_int ?_, rfl⟩
    unfold clampZ
    first | rfl | omega
attribute [irreducible] clampZ
theorem newB_any (s e : Int) (w : World) : Calls Try.prog 25 #[.int .i64 s, .int .i64 e] w fun en w' => en = .returned (.pointer (some ⟨w.heap.size, 0, none⟩)) ∧ w' = w.alloc (.cells #[.int .i64 (clampZ s 1 1152921504606846976), .int .i64 (clampZ e 0 1152921504606846976), .int .i64 0, .bool false] 68) := by
  go_enter Try.func25, Try.ntmps25
  go_wp2_with (go_at_call 37; refine (within_any _ _ _ _).mono ?_; rintro e w' ⟨rfl, rfl⟩)
  go_ret
  exact ⟨rfl, rfl⟩
theorem newB_id (s e : Int) (w : World) (s0 : 1 ≤ s) (s1 : s ≤ 1152921504606846976) (e0 : 0 ≤ e) (e1 : e ≤ 1152921504606846976) : Calls Try.prog 25 #[.int .i64 s, .int .i64 e] w fun en w' => en = .returned (.pointer (some ⟨w.heap.size, 0, none⟩)) ∧ w' = w.alloc (.cells #[.int .i64 s, .int .i64 e, .int .i64 0, .bool false] 68) := by
  have := newB_any s e w
  rw [clampZ_eq s0 s1, clampZ_eq e0 e1] at this
  exact this
def fitsB (e n : Int) (a : Bool) (t : Int) : Bool := !a || decide (n - e ≤ clampZ t 0 1152921504606846976)
theorem fits_any (b : Nat) (s e n : Int) (a : Bool) (t : Int) (w : World) (h : BuckAt w b s e n a) (e0 : 0 ≤ e) (e1 : e ≤ 1152921504606846976) (n0 : 0 ≤ n) (n1 : n ≤ 4611686018427387904) :
    Calls Try.prog 38 #[.pointer (some ⟨b, 0, none⟩), .int .i64 t] w fun en w' => en = .returned (.bool (fitsB e n a t)) ∧ ∃ m, w' = w.drewN m := by
  obtain ⟨c0, c1, c2, c3, hf⟩ := h.cells
  have hc := clampZ_in (x := t) (lo := 0) (hi := 1152921504606846976) (by omega)
  cases a
  · go_enter Try.func38, Try.ntmps38
    go_wp2
    go_quiet ((go_at_call 37; exact quiet_same (within_any _ _ _ _)))
    go_wp2
    go_ret
    exact ⟨ret_bool (by simp [fitsB]), _, rfl⟩
  · go_enter Try.func38, Try.ntmps38
    go_wp2
    go_quiet ((go_at_call 37; exact quiet_same (within_any _ _ _ _)))
    go_wp2
    go_ret
    exact ⟨ret_bool (by simp [fitsB]), _, rfl⟩
def nextB (s n t : Int) : Int := max n (clampZ t 0 1152921504606846976) + s
theorem take_end {w : World} {b : Nat} {s e n t x : Int} {a : Bool} (h : BuckAt w b s e n a) (hx : x = max n (clampZ t 0 1152921504606846976)) (h0 : 0 ≤ x + s) (h1 : x + s ≤ 9223372036854775807) :
    BuckAt ((w.setCell ⟨b, 2, none⟩ (.int .i64 (x + s))).setCell ⟨b, 3, none⟩ (.bool true)) b s e (nextB s n t) true := by
  have e1 : x + s = nextB s n t := by
    rw [hx]; rfl
  rw [e1]
  exact h.set.set3
theorem region_tail {P : Program} {id : Nat} {Q : Exit → Act → World → Prop} {a : Act} {w : World} {l : List Oper} (n : Nat) (hm : P.follows .mixedOrders = true) (hB : Region.lexTailB .any l.toArray n = true)
    (h : wpStill P l.toArray w.drew (fun a' => wpList P l.toArray Q (l.drop n) a' w.drew) (l.take n) a) : (Code.region id l.toArray true).wp P Q a w := wp_region_still_tail n hm hB h
theorem take_yes (b : Nat) (s e n : Int) (a : Bool) (t : Int) (w : World) (h : BuckAt w b s e n a) (e0 : 0 ≤ e) (e1 : e ≤ 1152921504606846976) (n0 : 0 ≤ n) (n1 : n ≤ 4611686018427387904) (s0 : 0 ≤ s) (s1 : s ≤ 1152921504606846976) (hy : fitsB e n a t = true) :
    Calls Try.prog 26 #[.pointer (some ⟨b, 0, none⟩), .int .i64 t] w fun en w' => en = .returned (.bool true) ∧ BuckAt w' b s e (nextB s n t) true ∧ Chg b w w' := by
  obtain ⟨c0, c1, c2, c3, hf⟩ := h.cells
  have hf2 := hf 2
  have hf3 := hf 3
  have hc := clampZ_in (x := t) (lo := 0) (hi := 1152921504606846976) (by omega)
  go_enter Try.func26, Try.ntmps26
  go_wp2_with (go_at_call 38; refine (fits_any _ _ _ _ _ _ _ h e0 e1 n0 n1).mono ?_; rintro e w' ⟨rfl, m, rfl⟩)
  have hw : ∃ w2 : World, w2 = (w.drewN m).drew := ⟨_, rfl⟩
  obtain ⟨w2, hw2⟩ := hw
  have H2 : BuckAt w2 b s e n a := by rw [hw2]; exact h
  have G2 : Chg b w w2 := by rw [hw2]; exact ((Chg.refl b w).drewN m).drew
  obtain ⟨d0, d1, d2, d3, df⟩ := H2.cells
  have df2 := df 2
  have df3 := df 3
  refine region_tail 13 (by kernel_rfl) (by kernel_rfl) ?_
  rw [← hw2]
  clear hw2 c0 c1 c2 c3 hf hf2 hf3
  simp only [List.take_succ_cons, List.take_zero, List.drop_succ_cons, List.drop_zero]
  repeat still_step
  still_call ((within_any _ _ _ _).mono fun _ _ ⟨h1, h2⟩ => ⟨h1, h2.symm⟩)
  repeat still_step
  refine wpStill_nil ?_
  go_wp2
  all_goals
    go_ret
    go_light
    refine ⟨rfl, ?_, ?_⟩
    · with_reducible refine take_end H2 ?_ ?_ ?_ <;> omega
    · with_reducible exact (G2.setCell _ _).setCell _ _
theorem take_no (b : Nat) (s e n : Int) (a : Bool) (t : Int) (w : World) (h : BuckAt w b s e n a) (e0 : 0 ≤ e) (e1 : e ≤ 1152921504606846976) (n0 : 0 ≤ n) (n1 : n ≤ 4611686018427387904) (hy : fitsB e n a t = false) :
    Calls Try.prog 26 #[.pointer (some ⟨b, 0, none⟩), .int .i64 t] w fun en w' => en = .returned (.bool false) ∧ ∃ m, w' = w.drewN m := by
  go_enter Try.func26, Try.ntmps26
  go_wp2_with (go_at_call 38; refine (fits_any _ _ _ _ _ _ _ h e0 e1 n0 n1).mono ?_; rintro e w' ⟨rfl, m, rfl⟩)
  go_ret
  exact ⟨rfl, _, rfl⟩
end Go.Proofs.Ytndmmhljphlhjaa
