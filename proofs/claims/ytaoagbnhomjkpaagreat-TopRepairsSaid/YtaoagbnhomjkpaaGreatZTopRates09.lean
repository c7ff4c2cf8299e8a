import Derived.StillTailTactics
import Derived.IntWalk
import Derived.Test.YtaoagbnhomjkpaaGreatZTopRates00
/- The layer 'bucket': a world in which one block alone may have turned; what a bucket reckons. -/
namespace Go.Proofs.YtaoagbnhomjkpaaGreat
set_option linter.unusedVariables false
set_option linter.unusedSimpArgs false
open Go.RowKit
set_option maxRecDepth 100000
set_option maxHeartbeats 4000000
/-- a bucket, in a block of its own. -/
def BuckAt (w : World) (b : Nat) (s e n : Int) (a : Bool) : Prop := w.heap[b]? = some (.cells #[.int .i64 s, .int .i64 e, .int .i64 n, .bool a] 180)
theorem BuckAt.lt {w : World} {b : Nat} {s e n : Int} {a : Bool} (h : BuckAt w b s e n a) : b < w.heap.size := by
  unfold BuckAt at h
  rcases Nat.lt_or_ge b w.heap.size with h' | h'
  · exact h'
  · simp [Array.getElem?_eq_none h'] at h
theorem BuckAt.cells {w : World} {b : Nat} {s e n : Int} {a : Bool} (h : BuckAt w b s e n a) :
    w.cell? ⟨b, 0, none⟩ = some (.int .i64 s) ∧ w.cell? ⟨b, 1, none⟩ = some (.int .i64 e) ∧ w.cell? ⟨b, 2, none⟩ = some (.int .i64 n) ∧ w.cell? ⟨b, 3, none⟩ = some (.bool a) ∧ ∀ o, w.frozen? ⟨b, o, none⟩ = false := by
  unfold BuckAt at h
  refine ⟨?_, ?_, ?_, ?_, fun o => frozen_of_row w b o _ _ h⟩ <;> rw [cell_of_row w b _ _ _ _ h] <;> rfl
theorem BuckAt.other {w w' : World} {b c : Nat} {s e n : Int} {a : Bool} (h : BuckAt w b s e n a) (hc : Chg c w w') (hn : b ≠ c) : BuckAt w' b s e n a := (hc.block b h.lt hn).trans h
theorem BuckAt.below {w w' : World} {b : Nat} {s e n : Int} {a : Bool} (h : BuckAt w b s e n a) (hb : Below w.heap.size w w') : BuckAt w' b s e n a := (hb.block b h.lt).trans h
theorem BuckAt.drewN {w : World} {b : Nat} {s e n : Int} {a : Bool} (h : BuckAt w b s e n a) (m : Nat) : BuckAt (w.drewN m) b s e n a := h
theorem BuckAt.set {w : World} {b : Nat} {s e n n' : Int} {a : Bool} (h : BuckAt w b s e n a) : BuckAt (w.setCell ⟨b, 2, none⟩ (.int .i64 n')) b s e n' a :=
  heap_setCell_same w b 2 _ _ _ h
theorem BuckAt.set3 {w : World} {b : Nat} {s e n : Int} {a a' : Bool} (h : BuckAt w b s e n a) : BuckAt (w.setCell ⟨b, 3, none⟩ (.bool a')) b s e n a' :=
  heap_setCell_same w b 3 _ _ _ h
def clampZ (x lo hi : Int) : Int := max lo (min x hi)
theorem clampZ_in {x lo hi : Int} (h : lo ≤ hi) : lo ≤ clampZ x lo hi ∧ clampZ x lo hi ≤ hi := by unfold clampZ; omega
theorem clampZ_id {x lo hi : Int} (h0 : lo ≤ x) (h1 : x ≤ hi) : clampZ x lo hi = x := by unfold clampZ; omega
theorem clampZ_eq {x lo hi : Int} (h0 : lo ≤ x) (h1 : x ≤ hi) : clampZ x lo hi = x := clampZ_id h0 h1
theorem within_any (x lo hi : Int) (w : World) : Calls Tryz.prog 69 #[.int .i64 x, .int .i64 lo, .int .i64 hi] w fun e w' => e = .returned (.int .i64 (clampZ x lo hi)) ∧ w = w' := by
  go_enter Tryz.func69, Tryz.ntmps69
  go_wp2
  all_goals
    go_ret
    go_light
    refine ⟨ret_int ?_, rfl⟩
    unfold clampZ
    first | rfl | omega
attribute [irreducible] clampZ
theorem newB_any (s e : Int) (w : World) : Calls Tryz.prog 43 #[.int .i64 s, .int .i64 e] w fun en w' => en = .returned (.pointer (some ⟨w.heap.size, 0, none⟩)) ∧ w' = w.alloc (.cells #[.int .i64 (clampZ s 1 1152921504606846976), .int .i64 (clampZ e 0 1152921504606846976), .int .i64 0, .bool false] 180) := by
  go_enter Tryz.func43, Tryz.ntmps43
  go_wp2_with (go_at_call 69; refine (within_any _ _ _ _).mono ?_; rintro e w' ⟨rfl, rfl⟩)
  go_ret
  exact ⟨rfl, rfl⟩
theorem newB_id (s e : Int) (w : World) (s0 : 1 ≤ s) (s1 : s ≤ 1152921504606846976) (e0 : 0 ≤ e) (e1 : e ≤ 1152921504606846976) : Calls Tryz.prog 43 #[.int .i64 s, .int .i64 e] w fun en w' => en = .returned (.pointer (some ⟨w.heap.size, 0, none⟩)) ∧ w' = w.alloc (.cells #[.int .i64 s, .int .i64 e, .int .i64 0, .bool false] 180) := by
  have := newB_any s e w
  rw [clampZ_eq s0 s1, clampZ_eq e0 e1] at this
  exact this
def fitsB (e n : Int) (a : Bool) (t : Int) : Bool := !a || decide (n - e ≤ clampZ t 0 1152921504606846976)
theorem fits_any (b : Nat) (s e n : Int) (a : Bool) (t : Int) (w : World) (h : BuckAt w b s e n a) (e0 : 0 ≤ e) (e1 : e ≤ 1152921504606846976) (n0 : 0 ≤ n) (n1 : n ≤ 4611686018427387904) :
    Calls Tryz.prog 174 #[.pointer (some ⟨b, 0, none⟩), .int .i64 t] w fun en w' => en = .returned (.bool (fitsB e n a t)) ∧ ∃ m, w' = w.drewN m := by
  obtain ⟨c0, c1, c2, c3, hf⟩ := h.cells
  have hc := clampZ_in (x := t) (lo := 0) (hi := 1152921504606846976) (by omega)
  cases a
  · go_enter Tryz.func174, Tryz.ntmps174
    go_wp2
    go_quiet ((go_at_call 69; exact quiet_same (within_any _ _ _ _)))
    go_wp2
    go_ret
    exact ⟨ret_bool (by simp [fitsB]), _, rfl⟩
  · go_enter Tryz.func174, Tryz.ntmps174
    go_wp2
    go_quiet ((go_at_call 69; exact quiet_same (within_any _ _ _ _)))
    go_wp2
    go_ret
    exact ⟨ret_bool (by simp [fitsB]), _, rfl⟩
def nextB (s n t : Int) : Int := max n (clampZ t 0 1152921504606846976) + s
theorem take_end {w : World} {b : Nat} {s e n t x : Int} {a : Bool} (h : BuckAt w b s e n a) (hx : x = max n (clampZ t 0 1152921504606846976)) (h0 : 0 ≤ x + s) (h1 : x + s ≤ 9223372036854775807) :
    BuckAt ((w.setCell ⟨b, 2, none⟩ (.int .i64 (x + s))).setCell ⟨b, 3, none⟩ (.bool true)) b s e (nextB s n t) true := by
  have e1 : x + s = nextB s n t := by
    rw [hx]; rfl
  rw [e1]
  exact h.set.set3
theorem region_tail {P : Program} {id : Nat} {Q : Exit → Act → World → Prop} {a : Act} {w : World} {l : List Oper} (n : Nat) (hm : P.follows .mixedOrders = true) (hB : Region.lexTailB .any l.toArray n = true)
    (h : wpStill P l.toArray w.drew (fun a' => wpList P l.toArray Q (l.drop n) a' w.drew) (l.take n) a) : (Code.region id l.toArray true).wp P Q a w := wp_region_still_tail n hm hB h
theorem take_yes (b : Nat) (s e n : Int) (a : Bool) (t : Int) (w : World) (h : BuckAt w b s e n a) (e0 : 0 ≤ e) (e1 : e ≤ 1152921504606846976) (n0 : 0 ≤ n) (n1 : n ≤ 4611686018427387904) (s0 : 0 ≤ s) (s1 : s ≤ 1152921504606846976) (hy : fitsB e n a t = true) :
    Calls Tryz.prog 175 #[.pointer (some ⟨b, 0, none⟩), .int .i64 t] w fun en w' => en = .returned (.bool true) ∧ BuckAt w' b s e (nextB s n t) true ∧ Chg b w w' := by
  obtain ⟨c0, c1, c2, c3, hf⟩ := h.cells
  have hf2 := hf 2
  have hf3 := hf 3
  have hc := clampZ_in (x := t) (lo := 0) (hi := 1152921504606846976) (by omega)
  go_enter Tryz.func175, Tryz.ntmps175
  go_wp2_with (go_at_call 174; refine (fits_any _ _ _ _ _ _ _ h e0 e1 n0 n1).mono ?_; rintro e w' ⟨rfl, m, rfl⟩)
  have hw : ∃ w2 : World, w2 = (w.drewN m).drew := ⟨_, rfl⟩
  obtain ⟨w2, hw2⟩ := hw
  have H2 : BuckAt w2 b s e n a := by rw [hw2]; exact h
  have G2 : Chg b w w2 := by rw [hw2]; exact ((Chg.refl b w).drewN m).drew
  obtain ⟨d0, d1, d2, d3, df⟩ := H2.cells
  have df2 := df 2
  have df3 := df 3
  refine region_tail 13 (by kernel_rfl) (by kernel_rfl) ?_
  rw [← hw2]
  clear hw2 c0 c1 c2 c3 hf hf2 hf3
  simp only [List.take_succ_cons, List.take_zero, List.drop_succ_cons, List.drop_zero]
  repeat still_step
  still_call ((within_any _ _ _ _).mono fun _ _ ⟨h1, h2⟩ => ⟨h1, h2.symm⟩)
  repeat still_step
  refine wpStill_nil ?_
  go_wp2
  all_goals
    go_ret
    go_light
    refine ⟨rfl, ?_, ?_⟩
    · with_reducible refine take_end H2 ?_ ?_ ?_ <;> omega
    · with_reducible exact (G2.setCell _ _).setCell _ _
theorem take_no (b : Nat) (s e n : Int) (a : Bool) (t : Int) (w : World) (h : BuckAt w b s e n a) (e0 : 0 ≤ e) (e1 : e ≤ 1152921504606846976) (n0 : 0 ≤ n) (n1 : n ≤ 4611686018427387904) (hy : fitsB e n a t = false) :
    Calls Tryz.prog 175 #[.pointer (some ⟨b, 0, none⟩), .int .i64 t] w fun en w' => en = .returned (.bool false) ∧ ∃ m, w' = w.drewN m := by
  go_enter Tryz.func175, Tryz.ntmps175
  go_wp2_with (go_at_call 174; refine (fits_any _ _ _ _ _ _ _ h e0 e1 n0 n1).mono ?_; rintro e w' ⟨rfl, m, rfl⟩)
  go_ret
  exact ⟨rfl, _, rfl⟩
end Go.Proofs.YtaoagbnhomjkpaaGreat

/- A policer in memory; which rules are asked. -/
namespace Go.Proofs.YtaoagbnhomjkpaaGreat
set_option linter.unusedVariables false
set_option linter.unusedSimpArgs false
open Go.RowKit Go.Shelf
set_option maxRecDepth 100000
set_option maxHeartbeats 4000000
attribute [local go_sem] Oper.semAt_some
/-- a rule; b is its bucket's block. -/
structure Rs where
  st : Int
  ea : Int
  zero : Bool
  tag : Bool
  b : Nat
abbrev Rs.val (r : Rs) : Array Value := #[.int .i64 r.st, .int .i64 r.ea, .bool r.zero, .bool r.tag, .iface 118 (.pointer (some ⟨r.b, 0, none⟩))]
def Rs.asks (r : Rs) (z : Bool) : Bool := !r.zero || z
/-- a rule's cells. -/
structure RsAt (w : World) (ra i : Nat) (r : Rs) : Prop where
  c0 : w.cell? ⟨ra, i * 5, none⟩ = some (.int .i64 r.st)
  c1 : w.cell? ⟨ra, i * 5 + 1, none⟩ = some (.int .i64 r.ea)
  c2 : w.cell? ⟨ra, i * 5 + 2, none⟩ = some (.bool r.zero)
  c3 : w.cell? ⟨ra, i * 5 + 3, none⟩ = some (.bool r.tag)
  c4 : w.cell? ⟨ra, i * 5 + 4, none⟩ = some (.iface 118 (.pointer (some ⟨r.b, 0, none⟩)))
/-- these blocks are kept. -/
def Kept (g g' : Nat) (A C : World) : Prop := A.heap.size ≤ C.heap.size ∧ ∀ k, (k = g ∨ k = g') → k < A.heap.size → C.heap[k]? = A.heap[k]?
theorem Kept.refl (g g' : Nat) (A : World) : Kept g g' A A := ⟨Nat.le_refl _, fun _ _ _ => rfl⟩
theorem Kept.trans {g g' : Nat} {A C D : World} (h : Kept g g' A C) (k : Kept g g' C D) : Kept g g' A D := ⟨Nat.le_trans h.1 k.1, fun j hj hl => (k.2 j hj (Nat.lt_of_lt_of_le hl h.1)).trans (h.2 j hj hl)⟩
theorem Kept.of {g g' : Nat} {A C : World} (h : Below A.heap.size A C) : Kept g g' A C := ⟨h.size, fun k _ hl => h.block k hl⟩
theorem Kept.cell {g g' b o : Nat} {A C : World} {v : Value} (h : Kept g g' A C) (hb : b = g ∨ b = g') (hc : A.cell? ⟨b, o, none⟩ = some v) : C.cell? ⟨b, o, none⟩ = some v :=
  (World.cell?_of_block (h.2 b hb (World.block_lt_of_cell? _ _ hc))).trans hc
theorem kept_b {g g' : Nat} {w : World} (h1 : g < w.heap.size) (h2 : g' < w.heap.size) (W : World) (l : Nat) (o o' : Obj) (hl : w.heap.size ≤ l) (h : W.heap[l]? = some o) (_ : o.isCells = false) (_ : o.isWalk = false) : Kept g g' W (W.putObj l o') :=
  ⟨by simp, fun k hk _ => World.putObj_heap_other (by omega)⟩
theorem RsAt.kept {w w' : World} {ra g i : Nat} {r : Rs} (h : RsAt w ra i r) (hk : Kept ra g w w') : RsAt w' ra i r :=
  ⟨hk.cell (.inl rfl) h.c0, hk.cell (.inl rfl) h.c1, hk.cell (.inl rfl) h.c2, hk.cell (.inl rfl) h.c3, hk.cell (.inl rfl) h.c4⟩
theorem RsAt.below {w w' : World} {ra i : Nat} {r : Rs} (h : RsAt w ra i r) (hb : Below w.heap.size w w') : RsAt w' ra i r :=
  ⟨cell_keep hb h.c0, cell_keep hb h.c1, cell_keep hb h.c2, cell_keep hb h.c3, cell_keep hb h.c4⟩
theorem grown_of_below {w w' : World} (h : Below w.heap.size w w') : w.grownBy w' none := ⟨h.os, h.tape, h.output, h.size, fun k hk _ => h.block k hk⟩
theorem abides_below {β : Type} {B : Nat} {J : β → World → Prop} (h : AbidesFrom B J) (s : β) (A C : World) (hs : J s A) (hb : Below A.heap.size A C) : J s C := h s A C none hs (grown_of_below hb) (fun r e => by cases e)
theorem asked_in {α : Type} (val : α → Rs) (F : Fence) (n : Nat) (h : F.fn 70) (hro : F.round = none) (hn : 1 ≤ n) (l p ra B1 B2 len cap : Nat) (clp : Int) (z : Bool) (hz : (clp == 0) = z) (L : List α) (hlen : L.length = len) (hlm : len ≤ 1000) (J Jx : List α → World → Prop) (hJb : ∀ pre A C, J pre A → Below A.heap.size A C → J pre C)
    (hY : ∀ pre x W, J pre W → pre.length < len → YieldAt F (n - 1) Tryz.prog l #[.agg (val x).val] W fun e W' =>
      (e = .returned (.bool true) ∧ J (pre ++ [x]) W' ∧ Kept ra B2 W W') ∨ (e = .returned (.bool false) ∧ Jx (pre ++ [x]) W'))
    (W : World) (hB1 : W.cell? ⟨B1, 0, none⟩ = some (.pointer (some ⟨p, 0, none⟩))) (hB2 : W.cell? ⟨B2, 0, none⟩ = some (.int .i64 clp)) (hp : W.cell? ⟨p, 1, none⟩ = some (.slice (some ⟨ra, 0, none⟩) len cap)) (hr : ∀ i x, L[i]? = some x → RsAt W ra i (val x)) (h0 : J [] W) :
    CallsIn F n Tryz.prog 70 #[.func (.yield l) #[] #[], .pointer (some ⟨B1, 0, none⟩), .pointer (some ⟨B2, 0, none⟩)] W fun e W' => (∃ v, e = .returned v) ∧
      ((∃ ys, ys = L.filter (fun x => (val x).asks z) ∧ J ys W') ∨ (∃ pre, pre <+: L.filter (fun x => (val x).asks z) ∧ Jx pre W')) := by
  refine callsIn_of_wp Tryz.func70 rfl h ?_ hro
  simp only [Tryz.ntmps70, List.size_toArray, List.length_cons, List.length_nil, Nat.reduceAdd, Nat.reduceSub, Array.replicate_succ, Array.replicate_zero, List.push_toArray, List.append_toArray, List.nil_append, List.cons_append]
  have HJB := Lib.hid hJb
  have HR := Lib.hid hr
  clear hJb hr
  gi_wp2
  gi_loopw [5, 11] (fun s5 s11 wr => ∃ k : Nat, k ≤ len ∧ s11 = .int .i64 k ∧ J ((L.take k).filter (fun x => (val x).asks z)) wr ∧ Kept ra B2 W wr) (fun s5 s11 wr => len - (intOf s11).toNat)
  case atStart => exact ⟨0, by omega, rfl, by rw [List.take_zero]; exact h0, Kept.refl _ _ _⟩
  case round =>
    obtain ⟨k, hk, rfl, hJ, hb⟩ := hrel
    by_cases hlt : k < len
    · obtain ⟨x, hx⟩ : ∃ x, L[k]? = some x := ⟨_, List.getElem?_eq_getElem (by omega)⟩
      obtain ⟨d0, d1, d2, d3, d4⟩ := (HR.out k x hx).kept hb
      have e2 := hb.cell (.inr rfl) hB2
      have hl2 : B2 < wr.heap.size := World.block_lt_of_cell? _ _ e2
      have htk : L.take (k + 1) = L.take k ++ [x] := by rw [List.take_add_one, hx]; rfl
      have HT := Lib.hid htk
      have HL := Lib.hid hlen
      clear hx htk hlen
      have bA : Below wr.heap.size wr (wr.alloc (.cells (val x).val 123)) := (Below.refl _ _).alloc (Nat.le_refl _) _
      have hlf : ((L.take k).filter (fun x => (val x).asks z)).length < len := by
        have := List.length_filter_le (fun x => (val x).asks z) (L.take k)
        rw [List.length_take] at this; omega
      have hJ1 := HJB.out _ _ _ hJ bA
      by_cases ha : (val x).asks z = true
      · have hfl : (L.take k).filter (fun x => (val x).asks z) ++ [x] = (L.take (k + 1)).filter (fun x => (val x).asks z) := by
          rw [HT.out, List.filter_append]; congr 1; simp [ha]
        have HF := Lib.hid hfl
        clear hfl
        obtain ⟨fn, tmps, assign, body, hy, hR⟩ := hY _ x _ hJ1 hlf
        obtain ⟨r, hrv⟩ : ∃ r, val x = r := ⟨_, rfl⟩
        rw [hrv] at d0 d1 d2 d3 d4 hy hR ha bA hJ1
        clear hrv
        obtain ⟨st, ea, zz, tg, bb⟩ := r
        have hcase : zz = false ∨ (zz = true ∧ z = true) := by unfold Rs.asks at ha; cases zz <;> simp at ha ⊢; exact ha
        clear ha
        rcases hcase with rfl | ⟨rfl, rfl⟩
        all_goals
          gi_wp2
          refine hR.mono ?_
          rintro e W3 (⟨rfl, hJ3, hk3⟩ | ⟨rfl, hJx3⟩)
          · have hb3 := (hb.trans (Kept.of bA)).trans hk3
            gi_wp2
            go_roundw
            case rel => exact ⟨k + 1, by omega, by go_num, by rw [← HF.out]; exact hJ3, hb3⟩
            case measure => simp [intOf]; omega
          · gi_wp2
            refine bodyPost_ret (results_none rfl _ _ _) rfl ?_
            exact ⟨⟨_, rfl⟩, .inr ⟨_, by rw [HF.out]; exact (List.take_prefix _ _).filter _, hJx3⟩⟩
      · have hfl : (L.take k).filter (fun x => (val x).asks z) = (L.take (k + 1)).filter (fun x => (val x).asks z) := by
          rw [HT.out, List.filter_append]; simp [ha]
        have HF := Lib.hid hfl
        clear hfl
        obtain ⟨r, hrv⟩ : ∃ r, val x = r := ⟨_, rfl⟩
        rw [hrv] at d0 d1 d2 d3 d4 ha bA hJ1
        clear hrv
        obtain ⟨st, ea, zz, tg, bb⟩ := r
        obtain ⟨rfl, rfl⟩ : zz = true ∧ z = false := by unfold Rs.asks at ha; cases zz <;> simp at ha ⊢; exact ha
        clear ha
        gi_wp2
        refine ⟨by simp, ?_⟩
        gi_wp2
        go_roundw
        case rel => exact ⟨k + 1, by omega, by go_num, by rw [← HF.out]; exact hJ1, hb.trans (Kept.of bA)⟩
        case measure => simp [intOf]; omega
    · obtain rfl : len = k := by omega
      rw [List.take_of_length_le (by omega)] at hJ
      gi_wp2
      go_end0
      exact ⟨⟨_, rfl⟩, .inl ⟨_, rfl, hJ⟩⟩
theorem asked_stops {α : Type} (val : α → Rs) (F : Fence) (n : Nat) (h : F.fn 70) (hro : F.round = none) (hn : 1 ≤ n) (p ra B1 B2 len cap : Nat) (clp : Int) (z : Bool) (hz : (clp == 0) = z) (L : List α) (hlen : L.length = len) (hlm : len ≤ 1000) (w : World)
    (hB1 : w.cell? ⟨B1, 0, none⟩ = some (.pointer (some ⟨p, 0, none⟩))) (hB2 : w.cell? ⟨B2, 0, none⟩ = some (.int .i64 clp)) (hp : w.cell? ⟨p, 1, none⟩ = some (.slice (some ⟨ra, 0, none⟩) len cap)) (hr : ∀ i x, L[i]? = some x → RsAt w ra i (val x)) :
    SeqStopsK F n Tryz.prog 70 #[.pointer (some ⟨B1, 0, none⟩), .pointer (some ⟨B2, 0, none⟩)] (fun x : α => #[.agg (val x).val]) (Kept ra B2) (fun ys => ys = L.filter (fun x => (val x).asks z)) (fun pre => pre <+: L.filter (fun x => (val x).asks z)) len w := fun l J Jx W hW hA _ hY h0 =>
  asked_in val F n h hro hn l p ra B1 B2 len cap clp z hz L hlen hlm J Jx (abides_below hA) hY W (cell_keep hW hB1) (cell_keep hW hB2) (cell_keep hW hp) (fun i x hx => (hr i x hx).below hW) h0
theorem asked_any (p : Nat) (clp : Int) (w : World) :
    Calls Tryz.prog 45 #[.pointer (some ⟨p, 0, none⟩), .int .i64 clp] w fun e w' => e = .returned (.func (.func 70) #[] #[.pointer (some ⟨w.heap.size, 0, none⟩), .pointer (some ⟨w.heap.size + 1, 0, none⟩)]) ∧ w' = (w.alloc (.cells #[.pointer (some ⟨p, 0, none⟩)] 47)).alloc (.cells #[.int .i64 clp] 3) := by
  go_enter Tryz.func45, Tryz.ntmps45
  go_wp2
  go_ret
  exact ⟨rfl, rfl⟩
end Go.Proofs.YtaoagbnhomjkpaaGreat

/- police: verdict. -/
namespace Go.Proofs.YtaoagbnhomjkpaaGreat
set_option linter.unusedVariables false
set_option linter.unusedSimpArgs false
open Go.RowKit Go.Shelf
set_option maxRecDepth 100000
set_option maxHeartbeats 4000000
attribute [local go_sem] Oper.semAt_some
/-- the buckets' states, by their blocks: next, any. -/
abbrev Bst : Type := Nat → Int × Bool
structure PolOk (p ra len : Nat) (l : List Rs) : Prop where
  length : l.length = len
  most : len ≤ 2
  pra : p ≠ ra
  bp : ∀ r ∈ l, r.b ≠ p ∧ r.b ≠ ra
  inj : ∀ r ∈ l, ∀ r' ∈ l, r.b = r'.b → r = r'
  nodup : l.Nodup
  span : ∀ r ∈ l, 1 ≤ r.st ∧ r.st ≤ 1099511627776 ∧ 0 ≤ r.ea ∧ r.ea ≤ 2199023255552
/-- a policer. -/
structure PolAt (w : World) (p ra len cap : Nat) (al : Bool) (l : List Rs) (σ : Bst) (c0 c1 c2 c3 : Int) : Prop where
  row : w.heap[p]? = some (.cells #[.bool al, .slice (some ⟨ra, 0, none⟩) len cap, .int .i64 c0, .int .i64 c1, .int .i64 c2, .int .i64 c3] 113)
  rules : ∀ i r, l[i]? = some r → RsAt w ra i r
  rlt : ra < w.heap.size
  bucks : ∀ r ∈ l, BuckAt w r.b r.st r.ea (σ r.b).1 (σ r.b).2
/-- the states' bound. -/
def Bd (l : List Rs) (σ : Bst) (M : Int) : Prop := ∀ r ∈ l, 0 ≤ (σ r.b).1 ∧ (σ r.b).1 ≤ M
theorem PolAt.below {w w' : World} {p ra len cap : Nat} {al : Bool} {l : List Rs} {σ : Bst} {c0 c1 c2 c3 : Int} (h : PolAt w p ra len cap al l σ c0 c1 c2 c3) (hb : Below w.heap.size w w') : PolAt w' p ra len cap al l σ c0 c1 c2 c3 :=
  ⟨(hb.block p (Array.getElem?_eq_some_iff.1 h.row).1).trans h.row, fun i r hr => (h.rules i r hr).below hb, Nat.lt_of_lt_of_le h.rlt hb.size, fun r hr => (h.bucks r hr).below hb⟩
theorem PolAt.lt {w : World} {p ra len cap : Nat} {al : Bool} {l : List Rs} {σ : Bst} {c0 c1 c2 c3 : Int} (h : PolAt w p ra len cap al l σ c0 c1 c2 c3) : p < w.heap.size := (Array.getElem?_eq_some_iff.1 h.row).1
theorem PolAt.cells {w : World} {p ra len cap : Nat} {al : Bool} {l : List Rs} {σ : Bst} {c0 c1 c2 c3 : Int} (h : PolAt w p ra len cap al l σ c0 c1 c2 c3) :
    w.cell? ⟨p, 0, none⟩ = some (.bool al) ∧ w.cell? ⟨p, 1, none⟩ = some (.slice (some ⟨ra, 0, none⟩) len cap) ∧ w.cell? ⟨p, 2, none⟩ = some (.int .i64 c0) ∧ w.cell? ⟨p, 3, none⟩ = some (.int .i64 c1) ∧ w.cell? ⟨p, 4, none⟩ = some (.int .i64 c2) ∧ w.cell? ⟨p, 5, none⟩ = some (.int .i64 c3) ∧ ∀ o, w.frozen? ⟨p, o, none⟩ = false := by
  refine ⟨?_, ?_, ?_, ?_, ?_, ?_, fun o => frozen_of_row w p o _ _ h.row⟩ <;> rw [cell_of_row w p _ _ _ _ h.row] <;> rfl
def fitR (σ : Bst) (t : Int) (r : Rs) : Bool := fitsB r.ea (σ r.b).1 (σ r.b).2 t
def badR (σ : Bst) (t : Int) (r : Rs) : Bool := !fitR σ t r && !r.tag
def verdZ (l : List Rs) (σ : Bst) (t : Int) (z : Bool) : Int :=
  if (l.filter (fun r => r.asks z)).any (badR σ t) then 3 else if (l.filter (fun r => r.asks z)).any (fun r => !fitR σ t r) then 2 else 1
theorem filter_attach (l : List Rs) (f : Rs → Bool) : (l.attach.filter (fun x => f x.1)).map Subtype.val = l.filter f := by
  have h := List.filter_map (p := f) (f := Subtype.val) (l := l.attach)
  rw [List.attach_map_subtype_val] at h
  exact h.symm
theorem meth_fits (n : Nat) (a : Option Addr) (w : World) : (Go.method (n + 1) 118 (.pointer a) "Fits").run Tryz.prog w = .ok (174, .pointer a) w := by kernel_rfl
theorem meth_take (n : Nat) (a : Option Addr) (w : World) : (Go.method (n + 1) 118 (.pointer a) "Take").run Tryz.prog w = .ok (175, .pointer a) w := by kernel_rfl
theorem meth_due (n : Nat) (a : Option Addr) (w : World) : (Go.method (n + 1) 118 (.pointer a) "Due").run Tryz.prog w = .ok (173, .pointer a) w := by kernel_rfl
theorem wide_fn (f : FuncId) : Fence.wide.fn f = True := rfl
theorem wide_depth : Fence.wide.depth = none := rfl
attribute [go_sem] meth_fits meth_take meth_due wide_fn wide_depth
theorem fits_in (l n : Nat) (b : Nat) (s e x : Int) (a : Bool) (t : Int) (w : World) (h : BuckAt w b s e x a) (e0 : 0 ≤ e) (e1 : e ≤ 1152921504606846976) (n0 : 0 ≤ x) (n1 : x ≤ 4611686018427387904) :
    CallsIn (Fence.wide.inRound l) n Tryz.prog 174 #[.pointer (some ⟨b, 0, none⟩), .int .i64 t] w fun en w' => en = .returned (.bool (fitsB e x a t)) ∧ ∃ m, w' = w.drewN m :=
  (callsIn_wide (n := n)).2 (fits_any b s e x a t w h e0 e1 n0 n1)
theorem keeps_drew {B m : Nat} {Z : World} : KeepsFrom B Z (Z.drewN m) := ⟨Nat.le_refl _, fun _ _ _ h _ => h⟩
theorem kept_drew {g g' m : Nat} {Z : World} : Kept g g' Z (Z.drewN m) := ⟨Nat.le_refl _, fun _ _ _ => rfl⟩
theorem keeps_set {B b m : Nat} {Z : World} {v : Value} (hb : b < B) : KeepsFrom B Z ((Z.drewN m).setCell ⟨b, 0, none⟩ v) :=
  keeps_drew.trans (KeepsFrom.of_grownBy (grownBy_setCell' _ b v) (fun j e => by injection e with e; omega))
theorem kept_set {g g' b m : Nat} {Z : World} {v : Value} (h1 : g ≠ b) (h2 : g' ≠ b) : Kept g g' Z ((Z.drewN m).setCell ⟨b, 0, none⟩ v) :=
  kept_drew.trans ⟨by simp, fun k hk hl => (grownBy_setCell' (Z.drewN m) b v).block k hl (fun e => by injection e with e; omega)⟩
theorem verdict_any {p ra len cap : Nat} {al : Bool} {l : List Rs} {σ : Bst} {c0 c1 c2 c3 : Int} (t clp : Int) (z : Bool) (hz : (clp == 0) = z) (w : World) (ok : PolOk p ra len l) (hP : PolAt w p ra len cap al l σ c0 c1 c2 c3) (hM : Bd l σ 4611686018427387904) :
    Calls Tryz.prog 44 #[.pointer (some ⟨p, 0, none⟩), .int .i64 t, .int .i64 clp] w fun e w' => e = .returned (.int .i64 (verdZ l σ t z)) ∧ Below w.heap.size w w' := by
  refine (callsIn_wide (n := 9)).1 ?_
  refine callsIn_of_wp_marks Tryz.func44 rfl trivial ?_ rfl
  refine wpIn_wide.2 ?_
  simp only [Tryz.ntmps44, List.size_toArray, List.length_cons, List.length_nil, Nat.reduceAdd, Nat.reduceSub, Array.replicate_succ, Array.replicate_zero, List.push_toArray, List.append_toArray, List.nil_append, List.cons_append]
  go_wp2
  go_step3
  go_wp2
  go_step3
  go_wp2_with (go_at_call 45; refine (asked_any _ _ _).mono ?_; rintro e w1 ⟨rfl, rfl⟩)
  have hBV : Below w.heap.size w ((((w.alloc (.cells #[.int .i64 t] 3)).alloc (.cells #[.int .i64 1] 3)).alloc (.cells #[.pointer (some ⟨p, 0, none⟩)] 47)).alloc (.cells #[.int .i64 clp] 3)) := ((((Below.refl _ _).alloc (Nat.le_refl _) _).alloc (by simp) _).alloc (by simp; omega) _).alloc (by simp; omega) _
  obtain ⟨V, hV⟩ : ∃ V, V = (((w.alloc (.cells #[.int .i64 t] 3)).alloc (.cells #[.int .i64 1] 3)).alloc (.cells #[.pointer (some ⟨p, 0, none⟩)] 47)).alloc (.cells #[.int .i64 clp] 3) := ⟨_, rfl⟩
  have k0 : V.cell? ⟨w.heap.size, 0, none⟩ = some (.int .i64 t) := by rw [hV]; simp [go_sem]
  have k1 : V.cell? ⟨w.heap.size + 1, 0, none⟩ = some (.int .i64 1) := by rw [hV]; simp [go_sem]
  have z1 : V.frozen? ⟨w.heap.size + 1, 0, none⟩ = false := by rw [hV]; simp [go_sem]
  have k2 : V.cell? ⟨w.heap.size + 1 + 1, 0, none⟩ = some (.pointer (some ⟨p, 0, none⟩)) := by rw [hV]; simp [go_sem]
  have k3 : V.cell? ⟨w.heap.size + 1 + 1 + 1, 0, none⟩ = some (.int .i64 clp) := by rw [hV]; simp [go_sem]
  have sV : V.heap.size = w.heap.size + 4 := by rw [hV]; simp
  rw [← hV] at hBV ⊢
  clear hV
  have hPV := hP.below hBV
  have hlen := ok.length
  refine (wpIn_wide (n := 9)).1 ?_
  refine wpIn_rangeFunc_ownH rfl (by omega) (gf := 70) (lb := #[.pointer (some ⟨w.heap.size + 1 + 1, 0, none⟩), .pointer (some ⟨w.heap.size + 1 + 1 + 1, 0, none⟩)]) rfl trivial (enters_of Tryz.func70 (by kernel_rfl) rfl)
    (asked_stops (Subtype.val : {r // r ∈ l} → Rs) Fence.wide (9 - 1) trivial rfl (by omega) p ra (w.heap.size + 1 + 1) (w.heap.size + 1 + 1 + 1) len cap clp z hz l.attach (by rw [List.length_attach]; exact hlen) (by have := ok.most; omega) V k2 k3 hPV.cells.2.1
      (fun i x hx => hPV.rules i x.1 (by
        have := congrArg (Option.map Subtype.val) hx
        rw [← List.getElem?_map, List.attach_map_subtype_val] at this
        exact this)))
    Kept.trans (kept_b hPV.rlt (by omega)) (Below.refl _ _) (fun _ => rfl)
    (fun pre Z => ((Z.cell? ⟨w.heap.size + 1, 0, none⟩ = some (.int .i64 (if pre.any (fun x => !fitR σ t x.1) then 2 else 1)) ∧ Z.frozen? ⟨w.heap.size + 1, 0, none⟩ = false) ∧ Z.cell? ⟨w.heap.size, 0, none⟩ = some (.int .i64 t)) ∧ pre.any (fun x => badR σ t x.1) = false ∧ Below w.heap.size w Z)
    (fun c pre Z => (c = .exit 0 ∧ (Z.cell? ⟨w.heap.size + 1, 0, none⟩ = some (.int .i64 3) ∧ Z.frozen? ⟨w.heap.size + 1, 0, none⟩ = false)) ∧ pre.any (fun x => badR σ t x.1) = true ∧ Below w.heap.size w Z)
    (fun pre A C row hs hg hr => ⟨⟨⟨cell_kept hs.1.1.1 hg (fun r e => (hr r e).2), (frozen_kept hs.1.1.1 hg (fun r e => (hr r e).2)).trans hs.1.1.2⟩, cell_kept hs.1.2 hg (fun r e => (hr r e).2)⟩, hs.2.1, ownFrom_below (Nat.le_refl _) (by omega) () A C row hs.2.2 hg hr⟩)
    (fun c pre A C row hs hg hr => ⟨⟨hs.1.1, cell_kept hs.1.2.1 hg (fun r e => (hr r e).2), (frozen_kept hs.1.2.1 hg (fun r e => (hr r e).2)).trans hs.1.2.2⟩, hs.2.1, ownFrom_below (Nat.le_refl _) (by omega) () A C row hs.2.2 hg hr⟩)
    ⟨⟨⟨by simpa using k1, z1⟩, k0⟩, rfl, hBV⟩
    (fun x a' Z => ∃ q, a' = { tmps := #[.pointer (some ⟨p, 0, none⟩), .int .i64 t, .int .i64 clp, undef, .pointer (some ⟨w.heap.size, 0, none⟩), undef, .int .i64 0, .pointer (some ⟨w.heap.size + 1, 0, none⟩), .pointer (some ⟨q, 0, none⟩), .pointer (some ⟨p, 0, none⟩), .int .i64 clp, .func (.func 70) #[] #[.pointer (some ⟨w.heap.size + 1 + 1, 0, none⟩), .pointer (some ⟨w.heap.size + 1 + 1 + 1, 0, none⟩)], .agg x.1.val, undef, undef, undef, undef, undef, undef, undef, undef, undef, undef], defers := [] } ∧ w.heap.size + 1 < q ∧ RsAt Z q 0 x.1)
    (fun x a' _ A C row hs hg hr => by
      obtain ⟨q, he, hq, h0, h1, h2, h3, h4⟩ := hs
      exact ⟨q, he, hq, cell_kept h0 hg (fun r e => (hr r e).2), cell_kept h1 hg (fun r e => (hr r e).2), cell_kept h2 hg (fun r e => (hr r e).2), cell_kept h3 hg (fun r e => (hr r e).2), cell_kept h4 hg (fun r e => (hr r e).2)⟩)
    ?assign ?body ?done ?stop
  case assign =>
    intro l' pre x Z K hi hK
    have b1 : Below Z.heap.size Z (Z.alloc (.cells x.1.val 123)) := (Below.refl _ _).alloc (Nat.le_refl _) _
    have HK := Lib.hid hK
    have HI := Lib.hid hi
    clear hK hi
    gi_wp2
    have hzl : w.heap.size + 1 < Z.heap.size := World.block_lt_of_cell? _ _ HI.out.1.1.1
    exact HK.out _ _ ⟨b1.size, fun k o _ hk _ => (b1.block k (Array.getElem?_eq_some_iff.1 hk).1).trans hk⟩ (Kept.of b1) ⟨⟨⟨cell_keep b1 HI.out.1.1.1, (b1.frozen (p := ⟨w.heap.size + 1, 0, none⟩) hzl).trans HI.out.1.1.2⟩, cell_keep b1 HI.out.1.2⟩, HI.out.2.1, HI.out.2.2.trans (b1.mono (by omega))⟩ ⟨Z.heap.size, rfl, hzl, cell_top rfl rfl, cell_top rfl rfl, cell_top rfl rfl, cell_top rfl rfl, cell_top rfl rfl⟩
  case body =>
    rintro l' pre x a' Z hl' ⟨rr, hrec⟩ ⟨⟨⟨hv, hvf⟩, ht⟩, hgood, hB⟩ ⟨q, rfl, hq, b0, b1, b2, b3, b4⟩ hlen'
    have hbk := (hP.bucks x.1 x.2).below hB
    have hbd := hM x.1 x.2
    have hsp := ok.span x.1 x.2
    have hany : (pre ++ [x]).any (fun x => !fitR σ t x.1) = (pre.any (fun x => !fitR σ t x.1) || !fitR σ t x.1) := by rw [List.any_append]; simp
    have hanb : (pre ++ [x]).any (fun x => badR σ t x.1) = badR σ t x.1 := by rw [List.any_append, hgood]; simp
    have hzl : w.heap.size + 1 < Z.heap.size := World.block_lt_of_cell? _ _ hv
    have hql : q < Z.heap.size := World.block_lt_of_cell? _ _ b0
    have hne : ¬ q = w.heap.size + 1 := by omega
    have hne2 : ¬ q = w.heap.size := by omega
    obtain ⟨fv, hfv⟩ : ∃ fv, fitR σ t x.1 = fv := ⟨_, rfl⟩
    rw [hfv] at hany
    have hanb : (pre ++ [x]).any (fun x => badR σ t x.1) = (!fv && !x.1.tag) := by rw [hanb]; unfold badR; rw [hfv]
    have hfv2 : fitsB x.1.ea (σ x.1.b).1 (σ x.1.b).2 t = fv := hfv
    obtain ⟨vv, hvv⟩ : ∃ vv : Int, (if pre.any (fun x => !fitR σ t x.1) then 2 else 1) = vv := ⟨_, rfl⟩
    rw [hvv] at hv
    have HA := Lib.hid hany
    have HB := Lib.hid hanb
    have HF := Lib.hid hfv2
    have HV := Lib.hid hvv
    have HG := Lib.hid hgood
    have hf38 : Fence.wide.fn 174 := trivial
    simp only [Nat.zero_mul, Nat.zero_add] at b0 b1 b2 b3 b4
    clear hany hanb hfv hfv2 hvv hgood hrec
    obtain ⟨⟨st, ea, zz, tg, bb⟩, hx⟩ := x
    simp only at b0 b1 b2 b3 b4 hbk hbd hsp HB HF
    cases fv
    · cases tg
      · gi_wp2_with (gi_at_call 174; (with_reducible refine (fits_in _ _ _ _ _ _ _ t _ hbk (by omega) (by omega) (by omega) (by omega)).mono ?_); rw [HF.out]; rintro e wf ⟨rfl, m, rfl⟩)
        refine ⟨keeps_set (by omega), ⟨rfl, cell_set (w := Z.drewN m) hv, by rw [World.frozen?_setCell]; exact hvf⟩, HB.out, (below_drewN hB m).setCell (p := ⟨w.heap.size + 1, 0, none⟩) (by simp) _⟩
      · gi_wp2_with (gi_at_call 174; (with_reducible refine (fits_in _ _ _ _ _ _ _ t _ hbk (by omega) (by omega) (by omega) (by omega)).mono ?_); rw [HF.out]; rintro e wf ⟨rfl, m, rfl⟩)
        refine ⟨keeps_set (by omega), kept_set (by have := hP.rlt; omega) (by omega), ⟨⟨?_, by rw [World.frozen?_setCell]; exact hvf⟩, cell_beside (w := Z.drewN m) (by omega) ht⟩, HB.out, (below_drewN hB m).setCell (p := ⟨w.heap.size + 1, 0, none⟩) (by simp) _⟩
        rw [HA.out]
        have := cell_set (w := Z.drewN m) (v := .int .i64 2) hv
        simpa using this
    · gi_wp2_with (gi_at_call 174; (with_reducible refine (fits_in _ _ _ _ _ _ _ t _ hbk (by omega) (by omega) (by omega) (by omega)).mono ?_); rw [HF.out]; rintro e wf ⟨rfl, m, rfl⟩)
      refine ⟨keeps_drew, kept_drew, ⟨⟨?_, hvf⟩, ht⟩, by rw [HB.out]; rfl, below_drewN hB m⟩
      rw [HA.out, Bool.not_true, Bool.or_false, HV.out]
      exact hv
  case done =>
    rintro D ys Z hD rfl ⟨⟨⟨hv, hvf⟩, ht⟩, hgood, hB⟩ hK
    have e1 : (l.attach.filter (fun x => x.1.asks z)).any (fun x => badR σ t x.1) = (l.filter (fun r => r.asks z)).any (badR σ t) := by
      rw [← filter_attach, List.any_map]; rfl
    have e2 : (l.attach.filter (fun x => x.1.asks z)).any (fun x => !fitR σ t x.1) = (l.filter (fun r => r.asks z)).any (fun r => !fitR σ t r) := by
      rw [← filter_attach, List.any_map]; rfl
    have hvz : (if (l.attach.filter (fun x => x.1.asks z)).any (fun x => !fitR σ t x.1) then 2 else 1 : Int) = verdZ l σ t z := by
      unfold verdZ
      rw [← e1, hgood, e2]; simp
    rw [hvz] at hv
    clear hvz hgood e1 e2
    go_wp2
    rw [Exit.noGoto_ret]
    refine ⟨by simp, .inl ⟨_, _, rfl, run_takeDeferred hK, ?_⟩⟩
    exact ⟨_, results_tmp rfl _ _ _, rfl, hB.trans (belowK_b (w := w) (Nat.le_refl _) Z D _ _ (by omega) hK rfl rfl)⟩
  case stop =>
    rintro D c pre Z hD hpre ⟨⟨rfl, hv, hvf⟩, hbad, hB⟩ hK
    have hvz : verdZ l σ t z = 3 := by
      unfold verdZ
      rw [if_pos]
      rw [← filter_attach, List.any_map]
      obtain ⟨x, hx, hxb⟩ := List.any_eq_true.1 hbad
      exact List.any_eq_true.2 ⟨x, hpre.subset hx, hxb⟩
    clear hbad hpre
    refine wpIn_wide.2 ?_
    go_wp2
    rw [Exit.noGoto_ret]
    refine ⟨by simp, .inl ⟨_, _, rfl, run_takeDeferred hK, ?_⟩⟩
    refine ⟨_, results_tmp rfl _ _ _, ?_, hB.trans (belowK_b (w := w) (Nat.le_refl _) Z D _ _ (by omega) hK rfl rfl)⟩
    exact ret_int hvz.symm
end Go.Proofs.YtaoagbnhomjkpaaGreat

/- police: Take. -/
namespace Go.Proofs.YtaoagbnhomjkpaaGreat
set_option linter.unusedVariables false
set_option linter.unusedSimpArgs false
open Go.RowKit Go.Shelf
set_option maxRecDepth 100000
set_option maxHeartbeats 4000000
attribute [local go_sem] Oper.semAt_some
/-- of what was there, the buckets' blocks (and p) alone may have turned. -/
structure ChgL (s : Nat → Prop) (w w' : World) : Prop where
  os : w'.os = w.os
  tape : w'.tape = w.tape
  output : w'.output = w.output
  size : w.heap.size ≤ w'.heap.size
  block : ∀ k, k < w.heap.size → ¬ s k → w'.heap[k]? = w.heap[k]?
theorem ChgL.refl (s : Nat → Prop) (w : World) : ChgL s w w := ⟨rfl, rfl, rfl, Nat.le_refl _, fun _ _ _ => rfl⟩
theorem ChgL.trans {s : Nat → Prop} {w w1 w2 : World} (h : ChgL s w w1) (k : ChgL s w1 w2) : ChgL s w w2 :=
  ⟨k.os.trans h.os, k.tape.trans h.tape, k.output.trans h.output, Nat.le_trans h.size k.size, fun j hj hn => (k.block j (Nat.lt_of_lt_of_le hj h.size) hn).trans (h.block j hj hn)⟩
theorem ChgL.of {s : Nat → Prop} {w w' : World} (h : Below w.heap.size w w') : ChgL s w w' := ⟨h.os, h.tape, h.output, h.size, fun k hk _ => h.block k hk⟩
theorem ChgL.chg {s : Nat → Prop} {b : Nat} {w w' : World} (h : Chg b w w') (hb : s b) : ChgL s w w' := ⟨h.os, h.tape, h.output, h.size, fun k hk hn => h.block k hk (fun e => hn (e ▸ hb))⟩
theorem ChgL.mono {s s' : Nat → Prop} {w w' : World} (h : ChgL s w w') (hs : ∀ k, s k → s' k) : ChgL s' w w' := ⟨h.os, h.tape, h.output, h.size, fun k hk hn => h.block k hk (fun e => hn (hs k e))⟩
theorem ChgL.below {s : Nat → Prop} {B : Nat} {w w' : World} (h : ChgL s w w') (hs : ∀ k, s k → B ≤ k) (hB : B ≤ w.heap.size) : Below B w w' :=
  ⟨h.os, h.tape, h.output, h.size, fun k hk => h.block k (by omega) (fun e => by have := hs k e; omega)⟩
theorem ChgL.put {s : Nat → Prop} {w A : World} {l : Nat} {o o' : Obj} (h : ChgL s w A) (hl : w.heap.size ≤ l) (hA : A.heap[l]? = some o) : ChgL s w (A.putObj l o') :=
  ⟨h.os, h.tape, h.output, by simpa using h.size, fun k hk hn => (World.putObj_heap_other (by omega)).trans (h.block k hk hn)⟩
theorem ChgL.grown {s : Nat → Prop} {B : Nat} {w A C : World} {row : Option Nat} (h : ChgL s w A) (hB : w.heap.size ≤ B) (hg : A.grownBy C row) (hr : ∀ r, row = some r → B ≤ r ∧ ∃ o : Obj, A.heap[r]? = some o ∧ o.isCells = false) : ChgL s w C := by
  have h0 := (Below.refl 0 A).grown hg (Nat.zero_le _) (fun _ _ => Nat.zero_le _)
  exact ⟨h0.os.trans h.os, h0.tape.trans h.tape, h0.output.trans h.output, Nat.le_trans h.size h0.size, fun k hk hn => (hg.block k (by have := h.size; omega) (fun e => by have := (hr k e.symm).1; omega)).trans (h.block k hk hn)⟩
/-- a bucket takes a cell, if it fits. -/
def tk (t : Int) (σ : Bst) (r : Rs) : Bst := fun b => if b = r.b ∧ fitR σ t r = true then (nextB r.st (σ r.b).1 t, true) else σ b
theorem tk_bd {l : List Rs} {σ : Bst} {M : Int} {p ra len : Nat} (ok : PolOk p ra len l) (h : Bd l σ M) (hM : 1152921504606846976 ≤ M) (t : Int) (r : Rs) (hr : r ∈ l) : Bd l (tk t σ r) (M + 1099511627776) := by
  intro y hy
  have hs := ok.span r hr
  have h1 := h y hy
  have h2 := h r hr
  have hc := clampZ_in (x := t) (lo := 0) (hi := 1152921504606846976) (by omega)
  unfold tk
  split
  · unfold nextB
    show 0 ≤ max (σ r.b).1 (clampZ t 0 1152921504606846976) + r.st ∧ _ ≤ _
    omega
  · show 0 ≤ (σ y.b).1 ∧ (σ y.b).1 ≤ _
    omega
theorem takeY_in (l n : Nat) (b : Nat) (s e x : Int) (a : Bool) (t : Int) (w : World) (h : BuckAt w b s e x a) (e0 : 0 ≤ e) (e1 : e ≤ 1152921504606846976) (n0 : 0 ≤ x) (n1 : x ≤ 4611686018427387904) (s0 : 0 ≤ s) (s1 : s ≤ 1152921504606846976) (hy : fitsB e x a t = true) :
    CallsIn (Fence.wide.inRound l) n Tryz.prog 175 #[.pointer (some ⟨b, 0, none⟩), .int .i64 t] w fun en w' => en = .returned (.bool true) ∧ BuckAt w' b s e (nextB s x t) true ∧ Chg b w w' :=
  (callsIn_wide (n := n)).2 (take_yes b s e x a t w h e0 e1 n0 n1 s0 s1 hy)
theorem takeN_in (l n : Nat) (b : Nat) (s e x : Int) (a : Bool) (t : Int) (w : World) (h : BuckAt w b s e x a) (e0 : 0 ≤ e) (e1 : e ≤ 1152921504606846976) (n0 : 0 ≤ x) (n1 : x ≤ 4611686018427387904) (hy : fitsB e x a t = false) :
    CallsIn (Fence.wide.inRound l) n Tryz.prog 175 #[.pointer (some ⟨b, 0, none⟩), .int .i64 t] w fun en w' => en = .returned (.bool false) ∧ ∃ m, w' = w.drewN m :=
  (callsIn_wide (n := n)).2 (take_no b s e x a t w h e0 e1 n0 n1 hy)
def inB (l : List Rs) : Nat → Prop := fun k => ∃ r ∈ l, k = r.b
theorem tk_same {t : Int} {σ : Bst} {r : Rs} (h : fitR σ t r = false) : tk t σ r = σ := by
  funext b; unfold tk; rw [if_neg (by rw [h]; simp)]
theorem buck_tk {l : List Rs} {p ra len : Nat} {t : Int} {σ : Bst} {r : Rs} {w w' : World} (ok : PolOk p ra len l) (hr : r ∈ l) (hf : fitR σ t r = true) (h : ∀ y ∈ l, BuckAt w y.b y.st y.ea (σ y.b).1 (σ y.b).2) (hn : BuckAt w' r.b r.st r.ea (nextB r.st (σ r.b).1 t) true) (hc : Chg r.b w w') :
    ∀ y ∈ l, BuckAt w' y.b y.st y.ea (tk t σ r y.b).1 (tk t σ r y.b).2 := by
  intro y hy
  by_cases e : y.b = r.b
  · obtain rfl := ok.inj y hy r hr e
    unfold tk
    rw [if_pos ⟨rfl, hf⟩]; exact hn
  · unfold tk
    rw [if_neg (fun h => e h.1)]
    exact (h y hy).other hc e
section
variable {w : World} {p ra len cap : Nat} {al : Bool} {l : List Rs} {σ : Bst} {c0 c1 c2 c3 : Int}
theorem PolAt.setAt (ok : PolOk p ra len l) (h : PolAt w p ra len cap al l σ c0 c1 c2 c3) (o : Nat) (x : Int) {d0 d1 d2 d3 : Int} (he : (#[.bool al, .slice (some ⟨ra, 0, none⟩) len cap, .int .i64 c0, .int .i64 c1, .int .i64 c2, .int .i64 c3] : Array Value).setIfInBounds o (.int .i64 x) = #[.bool al, .slice (some ⟨ra, 0, none⟩) len cap, .int .i64 d0, .int .i64 d1, .int .i64 d2, .int .i64 d3]) :
    PolAt (w.setCell ⟨p, o, none⟩ (.int .i64 x)) p ra len cap al l σ d0 d1 d2 d3 := by
  refine ⟨?_, fun i r hr => ?_, by simpa using h.rlt, fun r hr => ?_⟩
  · have := heap_setCell_same w p o _ _ (.int .i64 x) h.row
    rw [← he]; exact this
  · have g := h.rules i r hr
    exact ⟨cell_beside ok.pra g.c0, cell_beside ok.pra g.c1, cell_beside ok.pra g.c2, cell_beside ok.pra g.c3, cell_beside ok.pra g.c4⟩
  · exact (Below.heap_setCell w ⟨p, o, none⟩ _ r.b (ok.bp r hr).1).trans (h.bucks r hr)
theorem PolAt.put (h : PolAt w p ra len cap al l σ c0 c1 c2 c3) {D : Nat} {o : Obj} (h1 : D ≠ p) (h2 : ∀ r ∈ l, D ≠ r.b) (h3 : D ≠ ra) : PolAt (w.putObj D o) p ra len cap al l σ c0 c1 c2 c3 := by
  have k : ∀ j, D ≠ j → (w.putObj D o).heap[j]? = w.heap[j]? := fun j hj => World.putObj_heap_other (fun e => hj e.symm)
  refine ⟨(k p h1).trans h.row, fun i r hr => ?_, by simpa using h.rlt, fun r hr => (k _ (h2 r hr)).trans (h.bucks r hr)⟩
  have g := h.rules i r hr
  exact ⟨(World.cell?_of_block (k ra h3)).trans g.c0, (World.cell?_of_block (k ra h3)).trans g.c1, (World.cell?_of_block (k ra h3)).trans g.c2, (World.cell?_of_block (k ra h3)).trans g.c3, (World.cell?_of_block (k ra h3)).trans g.c4⟩
theorem PolAt.drew (h : PolAt w p ra len cap al l σ c0 c1 c2 c3) : PolAt w.drew p ra len cap al l σ c0 c1 c2 c3 := ⟨h.row, fun i r hr => let g := h.rules i r hr; ⟨g.c0, g.c1, g.c2, g.c3, g.c4⟩, h.rlt, h.bucks⟩
theorem PolAt.step {Z : World} {τ : Bst} (ok : PolOk p ra len l) (h : PolAt w p ra len cap al l σ c0 c1 c2 c3) (hc : ChgL (inB l) w Z) (hb : ∀ y ∈ l, BuckAt Z y.b y.st y.ea (τ y.b).1 (τ y.b).2) : PolAt Z p ra len cap al l τ c0 c1 c2 c3 := by
  have hp : ¬ inB l p := fun ⟨r, hr, e⟩ => (ok.bp r hr).1 e.symm
  have hra : ¬ inB l ra := fun ⟨r, hr, e⟩ => (ok.bp r hr).2 e.symm
  refine ⟨(hc.block p h.lt hp).trans h.row, fun i r hr => ?_, Nat.lt_of_lt_of_le h.rlt hc.size, hb⟩
  have g := h.rules i r hr
  have hk := hc.block ra h.rlt hra
  exact ⟨(World.cell?_of_block hk).trans g.c0, (World.cell?_of_block hk).trans g.c1, (World.cell?_of_block hk).trans g.c2, (World.cell?_of_block hk).trans g.c3, (World.cell?_of_block hk).trans g.c4⟩
end
/-- the last verdict. -/
def finZ (v : Int) (al z : Bool) : Int := if v = 1 ∧ al = true ∧ z = true then 2 else v
/-- the buckets behind a cell. -/
def nxtS (l : List Rs) (σ : Bst) (t v : Int) (z : Bool) : Bst := if v = 3 then σ else (l.filter (fun r => r.asks (if v = 2 then false else z))).foldl (tk t) σ
def hit (v k : Int) : Int := if v = k then 1 else 0
theorem verdZ_ex (l : List Rs) (σ : Bst) (t : Int) (z : Bool) : verdZ l σ t z = 1 ∨ verdZ l σ t z = 2 ∨ verdZ l σ t z = 3 := by
  unfold verdZ; split
  · exact .inr (.inr rfl)
  · split
    · exact .inr (.inl rfl)
    · exact .inl rfl
theorem take3 {p ra len cap : Nat} {al : Bool} {l : List Rs} {σ : Bst} {c0 c1 c2 c3 : Int} (t clp : Int) (z : Bool) (hz : (clp == 0) = z) (w : World) (ok : PolOk p ra len l) (hP : PolAt w p ra len cap al l σ c0 c1 c2 c3) (hM : Bd l σ 2305843009213693952) (b0 : 0 ≤ c0 ∧ c0 ≤ 1000000) (b3 : 0 ≤ c3 ∧ c3 ≤ 1000000) (hv : verdZ l σ t z = 3) :
    Calls Tryz.prog 15 #[.pointer (some ⟨p, 0, none⟩), .int .i64 t, .int .i64 clp] w fun e w' => e = .returned (.int .i64 3) ∧ PolAt w' p ra len cap al l σ (c0 + 1) c1 c2 (c3 + 1) ∧ ChgL (fun k => k = p ∨ inB l k) w w' := by
  have hM2 : Bd l σ 4611686018427387904 := fun r hr => by have := hM r hr; omega
  have HV := Lib.hid hv
  clear hv
  go_enter Tryz.func15, Tryz.ntmps15
  go_wp2_with (go_at_call 44; (with_reducible refine (verdict_any t clp z hz _ ok (hP.below ((Below.refl _ _).alloc (Nat.le_refl _) _)) hM2).mono ?_); rw [HV.out]; rintro e w1 ⟨rfl, hb_w1⟩)
  have hZ := (hP.below ((Below.refl _ _).alloc (Nat.le_refl _) (.cells #[.int .i64 t] 3))).below hb_w1
  have B1 : Below w.heap.size w w1 := ((Below.refl _ _).alloc (Nat.le_refl _) _).trans (hb_w1.mono (by simp))
  have y0 : IntKind.i64.wrap (c0 + 1) = c0 + 1 := IntWalk.i64_in _ (by omega)
  have y3 : IntKind.i64.wrap (c3 + 1) = c3 + 1 := IntWalk.i64_in _ (by omega)
  clear hb_w1 HV hM hM2 hz
  (obtain ⟨w2, hw2⟩ : ∃ w2 : World, w2 = w1.drew := ⟨_, rfl⟩); (have H2 : PolAt w2 p ra len cap al l σ c0 c1 c2 c3 := by rw [hw2]; exact (hZ).drew); (have G2 : Below w1.heap.size w1 w2 := by rw [hw2]; exact (Below.refl _ _).drew); (obtain ⟨d0, d1, d2, d3, d4, d5, df⟩ := H2.cells); (have f2 := df 2); (refine region_tail 8 (by kernel_rfl) (by kernel_rfl) ?_); (rw [← hw2]); (clear hw2); (simp only [List.take_succ_cons, List.take_zero, List.drop_succ_cons, List.drop_zero]); (repeat still_step); (refine wpStill_nil ?_); go_wp2; (have H3 : PolAt (w2.setCell ⟨p, 2, none⟩ (.int .i64 (c0 + 1))) p ra len cap al l σ (c0 + 1) c1 c2 c3 := H2.setAt ok 2 (c0 + 1) rfl); (clear d0 d1 d2 d3 d4 d5 f2 df); (obtain ⟨w3, hw3⟩ : ∃ w3 : World, w3 = (w2.setCell ⟨p, 2, none⟩ (.int .i64 (c0 + 1))) := ⟨_, rfl⟩); (have G3 : ChgL (fun k => k = p ∨ inB l k) w2 w3 := by rw [hw3]; exact ChgL.chg ((Chg.refl p w2).setCell 2 _) (.inl rfl)); (have hW3 := fun (D : Nat) (hDp : D ≠ p) => show w3.heap[D]? = w2.heap[D]? from (by rw [hw3]; exact Below.heap_setCell w2 ⟨p, 2, none⟩ _ D hDp)); (rw [← hw3] at H3 ⊢); (clear hw3); (obtain ⟨w4, hw4⟩ : ∃ w4 : World, w4 = w3.drew := ⟨_, rfl⟩); (have H4 : PolAt w4 p ra len cap al l σ (c0 + 1) c1 c2 c3 := by rw [hw4]; exact H3.drew); (have G4 : Below w3.heap.size w3 w4 := by rw [hw4]; exact (Below.refl _ _).drew); (obtain ⟨d0, d1, d2, d3, d4, d5, df⟩ := H4.cells); (have f3 := df 3); (have f4 := df 4); (have f5 := df 5); (refine region_tail 9 (by kernel_rfl) (by kernel_rfl) ?_); (rw [← hw4]); (clear hw4); (simp only [List.take_succ_cons, List.take_zero, List.drop_succ_cons, List.drop_zero]); (repeat still_step); (refine wpStill_nil ?_); go_wp2
  go_ret
  refine ⟨rfl, H4.setAt ok 5 (c3 + 1) rfl, ?_⟩
  exact ((((ChgL.of B1).trans (ChgL.of G2)).trans G3).trans (ChgL.of G4)).trans (ChgL.chg ((Chg.refl p w4).setCell 5 _) (.inl rfl))
theorem hBW_of {s : Nat → Prop} {w V : World} (h : Below w.heap.size w V) : ChgL s w V := ChgL.of h
theorem take1 {p ra len cap : Nat} {al : Bool} {l : List Rs} {σ : Bst} {c0 c1 c2 c3 : Int} (t clp : Int) (z : Bool) (hz : (clp == 0) = z) (w : World) (ok : PolOk p ra len l) (hP : PolAt w p ra len cap al l σ c0 c1 c2 c3) (hM : Bd l σ 2305843009213693952) (b0 : 0 ≤ c0 ∧ c0 ≤ 1000000) (b1 : 0 ≤ c1 ∧ c1 ≤ 1000000) (b2 : 0 ≤ c2 ∧ c2 ≤ 1000000) (hv : verdZ l σ t z = 1) :
    Calls Tryz.prog 15 #[.pointer (some ⟨p, 0, none⟩), .int .i64 t, .int .i64 clp] w fun e w' => e = .returned (.int .i64 (finZ 1 al z)) ∧ PolAt w' p ra len cap al l (nxtS l σ t 1 z) (c0 + 1) (c1 + hit (finZ 1 al z) 1) (c2 + hit (finZ 1 al z) 2) c3 ∧ ChgL (fun k => k = p ∨ inB l k) w w' := by
  have hM2 : Bd l σ 4611686018427387904 := fun r hr => by have := hM r hr; omega
  have HV := Lib.hid hv
  have HZ := Lib.hid hz
  clear hv
  refine (callsIn_wide (n := 9)).1 ?_
  refine callsIn_of_wp_marks Tryz.func15 rfl trivial ?_ rfl
  refine wpIn_wide.2 ?_
  simp only [Tryz.ntmps15, List.size_toArray, List.length_cons, List.length_nil, Nat.reduceAdd, Nat.reduceSub, Array.replicate_succ, Array.replicate_zero, List.push_toArray, List.append_toArray, List.nil_append, List.cons_append]
  clear hz
  go_wp2_with (first | (go_at_call 44; (with_reducible refine (verdict_any t clp z HZ.out _ ok (hP.below ((Below.refl _ _).alloc (Nat.le_refl _) _)) hM2).mono ?_); rw [HV.out]; rintro e w1 ⟨rfl, hb_w1⟩; have k0 : w1.cell? ⟨w.heap.size, 0, none⟩ = some (.int .i64 t) := cell_keep hb_w1 (cell_top rfl rfl)) | (go_at_call 45; refine (asked_any _ _ _).mono ?_; rintro e w9 ⟨rfl, rfl⟩))
  have hB1 : Below w.heap.size w w1 := ((Below.refl _ _).alloc (Nat.le_refl _) _).trans (hb_w1.mono (by simp))
  have hs1 : w.heap.size < w1.heap.size := World.block_lt_of_cell? _ _ k0
  obtain ⟨V, hV⟩ : ∃ V, V = (w1.alloc (.cells #[.pointer (some ⟨p, 0, none⟩)] 47)).alloc (.cells #[.int .i64 clp] 3) := ⟨_, rfl⟩
  have hBV : Below w1.heap.size w1 V := by rw [hV]; exact ((Below.refl _ _).alloc (Nat.le_refl _) _).alloc (by simp) _
  have k2 : V.cell? ⟨w1.heap.size, 0, none⟩ = some (.pointer (some ⟨p, 0, none⟩)) := by rw [hV]; simp [go_sem]
  have k3 : V.cell? ⟨w1.heap.size + 1, 0, none⟩ = some (.int .i64 clp) := by rw [hV]; simp [go_sem]
  have sV : V.heap.size = w1.heap.size + 2 := by rw [hV]; simp
  rw [← hV]
  clear hV hb_w1
  have hBW : Below w.heap.size w V := hB1.trans (hBV.mono hB1.size)
  have k0 := cell_keep hBV k0
  have hPV := hP.below hBW
  have hlen := ok.length
  have hinV : ∀ k, inB l k → k < w.heap.size := fun k ⟨r, hr, e⟩ => by rw [e]; exact (hP.bucks r hr).lt
  obtain ⟨sg, hsg⟩ : ∃ sg : List {r // r ∈ l} → Bst, sg = fun pre => pre.foldl (fun σ x => tk t σ x.1) σ := ⟨_, rfl⟩
  have sg0 : sg [] = σ := by rw [hsg]; rfl
  have sg1 : ∀ pre x, sg (pre ++ [x]) = tk t (sg pre) x.1 := fun pre x => by rw [hsg]; simp [List.foldl_append]
  have sg2 : sg (l.attach.filter (fun x => x.1.asks z)) = nxtS l σ t 1 z := by
    rw [hsg]
    unfold nxtS
    rw [if_neg (by decide), ← filter_attach, List.foldl_map]
    rfl
  have SG1 := Lib.hid sg1
  have SG2 := Lib.hid sg2
  clear sg1 sg2 hsg
  refine (wpIn_wide (n := 9)).1 ?_
  refine wpIn_rangeFunc_ownH rfl (by omega) (gf := 70) (lb := #[.pointer (some ⟨w1.heap.size, 0, none⟩), .pointer (some ⟨w1.heap.size + 1, 0, none⟩)]) rfl trivial (enters_of Tryz.func70 (by kernel_rfl) rfl)
    (asked_stops (Subtype.val : {r // r ∈ l} → Rs) Fence.wide (9 - 1) trivial rfl (by omega) p ra w1.heap.size (w1.heap.size + 1) len cap clp z HZ.out l.attach (by rw [List.length_attach]; exact hlen) (by have := ok.most; omega) V k2 k3 hPV.cells.2.1
      (fun i x hx => hPV.rules i x.1 (by
        have := congrArg (Option.map Subtype.val) hx
        rw [← List.getElem?_map, List.attach_map_subtype_val] at this
        exact this)))
    Kept.trans (kept_b hPV.rlt (by omega)) (Below.refl _ _) (fun _ => rfl)
    (fun pre Z => Z.cell? ⟨w.heap.size, 0, none⟩ = some (.int .i64 t) ∧ (∀ y ∈ l, BuckAt Z y.b y.st y.ea (sg pre y.b).1 (sg pre y.b).2) ∧ Bd l (sg pre) (2305843009213693952 + pre.length * 1099511627776) ∧ ChgL (inB l) w Z)
    (fun _ _ _ => False)
    (fun pre A C row hs hg hr => ⟨cell_kept hs.1 hg (fun r e => (hr r e).2), fun y hy => (grownBy_keeps_cells hg (fun r e => (hr r e).2) (hs.2.1 y hy) rfl).trans (hs.2.1 y hy), hs.2.2.1, hs.2.2.2.grown hBW.size hg hr⟩)
    (fun _ _ _ _ _ hs _ _ => hs)
    ⟨k0, fun y hy => by rw [sg0]; exact hPV.bucks y hy, by rw [sg0]; exact fun r hr => by have := hM r hr; simp; omega, hBW_of hBW⟩
    (fun x a' Z => ∃ q, a' = { tmps := #[.pointer (some ⟨p, 0, none⟩), .int .i64 t, .int .i64 clp, undef, .pointer (some ⟨w.heap.size, 0, none⟩), undef, .int .i64 0, .int .i64 1, .int .i64 clp, .pointer (some ⟨q, 0, none⟩), .pointer (some ⟨p, 0, none⟩), .bool false, .pointer (some ⟨p, 0, none⟩), .int .i64 t, .int .i64 clp, .int .i64 1, .int .i64 clp, .int .i64 1, .bool false, .int .i64 1, .bool true, .pointer (some ⟨p, 0, none⟩), .int .i64 clp, .func (.func 70) #[] #[.pointer (some ⟨w1.heap.size, 0, none⟩), .pointer (some ⟨w1.heap.size + 1, 0, none⟩)], .agg x.1.val, undef, undef, undef, undef, undef, undef, undef, undef, undef, undef, undef, undef, undef, undef, undef, undef, undef, undef, undef, undef, undef, undef, undef, undef, undef, undef, undef, undef, undef, undef, undef, undef, undef, undef, undef, undef], defers := [] } ∧ w.heap.size < q ∧ RsAt Z q 0 x.1)
    (fun x a' _ A C row hs hg hr => by
      obtain ⟨q, he, hq, h0, h1, h2, h3, h4⟩ := hs
      exact ⟨q, he, hq, cell_kept h0 hg (fun r e => (hr r e).2), cell_kept h1 hg (fun r e => (hr r e).2), cell_kept h2 hg (fun r e => (hr r e).2), cell_kept h3 hg (fun r e => (hr r e).2), cell_kept h4 hg (fun r e => (hr r e).2)⟩)
    ?assign ?body ?done ?stop
  case assign =>
    intro l' pre x Z K hi hK
    have b1 : Below Z.heap.size Z (Z.alloc (.cells x.1.val 123)) := (Below.refl _ _).alloc (Nat.le_refl _) _
    have HK := Lib.hid hK
    have HI := Lib.hid hi
    clear hK hi
    gi_wp2
    have hzl : w.heap.size < Z.heap.size := World.block_lt_of_cell? _ _ HI.out.1
    exact HK.out _ _ ⟨b1.size, fun k o _ hk _ => (b1.block k (Array.getElem?_eq_some_iff.1 hk).1).trans hk⟩ (Kept.of b1) ⟨cell_keep b1 HI.out.1, fun y hy => (HI.out.2.1 y hy).below b1, HI.out.2.2.1, HI.out.2.2.2.trans (ChgL.of b1)⟩ ⟨Z.heap.size, rfl, hzl, cell_top rfl rfl, cell_top rfl rfl, cell_top rfl rfl, cell_top rfl rfl, cell_top rfl rfl⟩
  case body =>
    rintro l' pre x a' Z hl' ⟨rr, hrec⟩ ⟨ht, hbk, hbd, hch⟩ ⟨q, rfl, hq, d0, d1, d2, d3, d4⟩ hlen'
    have hb := hbk x.1 x.2
    have hbx := hbd x.1 x.2
    have hsp := ok.span x.1 x.2
    have hmost := ok.most
    have hlt : x.1.b < w.heap.size := hinV _ ⟨x.1, x.2, rfl⟩
    have hpl : (pre.length : Int) ≤ 2 := by omega
    have hbd1 := tk_bd ok hbd (by omega) t x.1 x.2
    have hlp : ((pre ++ [x]).length : Int) = pre.length + 1 := by simp
    have hf26 : Fence.wide.fn 175 := trivial
    simp only [Nat.zero_mul, Nat.zero_add] at d0 d1 d2 d3 d4
    have HS := SG1.out pre x
    have HS := Lib.hid HS
    have HBK := Lib.hid hbk
    have HBD := Lib.hid hbd1
    have HLP := Lib.hid hlp
    have hx2 := x.2
    clear hrec hbk hbd hbd1 hlp
    by_cases hf : fitR (sg pre) t x.1 = true
    · have HF := Lib.hid hf
      have hf2 : fitsB x.1.ea (sg pre x.1.b).1 (sg pre x.1.b).2 t = true := hf
      have HF2 := Lib.hid hf2
      clear hf hf2
      gi_wp2_with (gi_at_call 175; (with_reducible refine (takeY_in _ _ _ _ _ _ _ t _ hb (by omega) (by omega) (by omega) (by omega) (by omega) (by omega) HF2.out).mono ?_); rintro e wf ⟨rfl, hbn, hcg⟩)
      refine ⟨⟨hcg.size, fun k o hk ho _ => (hcg.block k (Array.getElem?_eq_some_iff.1 ho).1 (by omega)).trans ho⟩, ⟨hcg.size, fun k hk hl => hcg.block k hl (by have := (ok.bp x.1 x.2).2; omega)⟩, hcg.cell (by omega) ht, ?_, ?_, hch.trans (ChgL.chg hcg ⟨x.1, x.2, rfl⟩)⟩
      · rw [HS.out]; exact buck_tk ok x.2 HF.out HBK.out hbn hcg
      · rw [HS.out, HLP.out, Int.add_mul, ← Int.add_assoc]; exact HBD.out
    · have hf : fitR (sg pre) t x.1 = false := by simpa using hf
      have HF := Lib.hid hf
      have hf2 : fitsB x.1.ea (sg pre x.1.b).1 (sg pre x.1.b).2 t = false := hf
      have HF2 := Lib.hid hf2
      clear hf hf2
      gi_wp2_with (gi_at_call 175; (with_reducible refine (takeN_in _ _ _ _ _ _ _ t _ hb (by omega) (by omega) (by omega) (by omega) HF2.out).mono ?_); rintro e wf ⟨rfl, m, rfl⟩)
      refine ⟨keeps_drew, kept_drew, ht, ?_, ?_, ⟨hch.os, hch.tape, hch.output, hch.size, hch.block⟩⟩
      · rw [HS.out, tk_same HF.out]; exact HBK.out
      · rw [HS.out, HLP.out, Int.add_mul, ← Int.add_assoc]; exact HBD.out
  case done =>
    rintro D ys Z hD rfl ⟨ht, hbk, hbd, hch⟩ hK
    have hbk2 : ∀ y ∈ l, BuckAt Z y.b y.st y.ea (nxtS l σ t 1 z y.b).1 (nxtS l σ t 1 z y.b).2 := by rw [← SG2.out]; exact hbk
    have HPZ := hP.step ok hch hbk2
    obtain ⟨τ, hτ⟩ : ∃ τ, nxtS l σ t 1 z = τ := ⟨_, rfl⟩
    rw [hτ] at HPZ
    have HT := Lib.hid hτ
    clear hτ
    have hcells := HPZ.cells
    have a0 := hcells.1
    have hzc := HZ.out
    have hchp : ChgL (fun k => k = p ∨ inB l k) w Z := hch.mono (fun k h => .inr h)
    have hDp : D ≠ p := by have := hP.lt; have := hBW.size; omega
    have y0 : IntKind.i64.wrap (c0 + 1) = c0 + 1 := IntWalk.i64_in _ (by omega)
    have y1 : IntKind.i64.wrap (c1 + 1) = c1 + 1 := IntWalk.i64_in _ (by omega)
    have y2 : IntKind.i64.wrap (c2 + 1) = c2 + 1 := IntWalk.i64_in _ (by omega)
    have hDl : D < Z.heap.size := (Array.getElem?_eq_some_iff.1 hK).1
    clear hbk hbd hch hbk2 hcells ht k0 k2 k3
    cases al <;> cases z
    · go_wp2
      (obtain ⟨w2, hw2⟩ : ∃ w2 : World, w2 = Z.drew := ⟨_, rfl⟩); (have H2 : PolAt w2 p ra len cap false l τ c0 c1 c2 c3 := by rw [hw2]; exact (HPZ).drew); (have G2 : Below Z.heap.size Z w2 := by rw [hw2]; exact (Below.refl _ _).drew); (obtain ⟨d0, d1, d2, d3, d4, d5, df⟩ := H2.cells); (have f2 := df 2); (refine region_tail 8 (by kernel_rfl) (by kernel_rfl) ?_); (rw [← hw2]); (clear hw2); (simp only [List.take_succ_cons, List.take_zero, List.drop_succ_cons, List.drop_zero]); (repeat still_step); (refine wpStill_nil ?_); go_wp2; (have H3 : PolAt (w2.setCell ⟨p, 2, none⟩ (.int .i64 (c0 + 1))) p ra len cap false l τ (c0 + 1) c1 c2 c3 := H2.setAt ok 2 (c0 + 1) rfl); (clear d0 d1 d2 d3 d4 d5 f2 df); (obtain ⟨w3, hw3⟩ : ∃ w3 : World, w3 = (w2.setCell ⟨p, 2, none⟩ (.int .i64 (c0 + 1))) := ⟨_, rfl⟩); (have G3 : ChgL (fun k => k = p ∨ inB l k) w2 w3 := by rw [hw3]; exact ChgL.chg ((Chg.refl p w2).setCell 2 _) (.inl rfl)); (have hW3 := fun (D : Nat) (hDp : D ≠ p) => show w3.heap[D]? = w2.heap[D]? from (by rw [hw3]; exact Below.heap_setCell w2 ⟨p, 2, none⟩ _ D hDp)); (rw [← hw3] at H3 ⊢); (clear hw3); (obtain ⟨w4, hw4⟩ : ∃ w4 : World, w4 = w3.drew := ⟨_, rfl⟩); (have H4 : PolAt w4 p ra len cap false l τ (c0 + 1) c1 c2 c3 := by rw [hw4]; exact H3.drew); (have G4 : Below w3.heap.size w3 w4 := by rw [hw4]; exact (Below.refl _ _).drew); (obtain ⟨d0, d1, d2, d3, d4, d5, df⟩ := H4.cells); (have f3 := df 3); (have f4 := df 4); (have f5 := df 5); (refine region_tail 9 (by kernel_rfl) (by kernel_rfl) ?_); (rw [← hw4]); (clear hw4); (simp only [List.take_succ_cons, List.take_zero, List.drop_succ_cons, List.drop_zero]); (repeat still_step); (refine wpStill_nil ?_); go_wp2
      (have hpl := H4.lt); (have hK2 : w2.heap[D]? = some (.deferred (some [])) := (G2.block D hDl).trans hK); (have hK3 : w3.heap[D]? = some (.deferred (some [])) := (hW3 D hDp).trans hK2); (have hK4 : w4.heap[D]? = some (.deferred (some [])) := (G4.block D (Array.getElem?_eq_some_iff.1 hK3).1).trans hK3); (have hKf := (Below.heap_setCell w4 ⟨p, 3, none⟩ (.int .i64 (c1 + 1)) D hDp).trans hK4); (refine ⟨by simp, .inl ⟨_, _, rfl, run_takeDeferred hKf, ?_⟩⟩); (refine ⟨_, results_tmp rfl _ _ _, ?_, ?_, ?_⟩); (focus exact rfl)
      · rw [HT.out, show c1 + hit (finZ 1 false false) 1 = c1 + 1 by show c1 + 1 = c1 + 1; omega, show c2 + hit (finZ 1 false false) 2 = c2 by show c2 + 0 = c2; omega]
        exact (H4.setAt ok 3 (c1 + 1) rfl).put (by omega) (fun r hr => by have := hinV r.b ⟨r, hr, rfl⟩; omega) (by have := hP.rlt; omega)
      · exact (((((hchp.trans (ChgL.of G2)).trans G3).trans (ChgL.of G4)).trans (ChgL.chg ((Chg.refl p w4).setCell 3 _) (.inl rfl)))).put (by omega) hKf
    · go_wp2
      (obtain ⟨w2, hw2⟩ : ∃ w2 : World, w2 = Z.drew := ⟨_, rfl⟩); (have H2 : PolAt w2 p ra len cap false l τ c0 c1 c2 c3 := by rw [hw2]; exact (HPZ).drew); (have G2 : Below Z.heap.size Z w2 := by rw [hw2]; exact (Below.refl _ _).drew); (obtain ⟨d0, d1, d2, d3, d4, d5, df⟩ := H2.cells); (have f2 := df 2); (refine region_tail 8 (by kernel_rfl) (by kernel_rfl) ?_); (rw [← hw2]); (clear hw2); (simp only [List.take_succ_cons, List.take_zero, List.drop_succ_cons, List.drop_zero]); (repeat still_step); (refine wpStill_nil ?_); go_wp2; (have H3 : PolAt (w2.setCell ⟨p, 2, none⟩ (.int .i64 (c0 + 1))) p ra len cap false l τ (c0 + 1) c1 c2 c3 := H2.setAt ok 2 (c0 + 1) rfl); (clear d0 d1 d2 d3 d4 d5 f2 df); (obtain ⟨w3, hw3⟩ : ∃ w3 : World, w3 = (w2.setCell ⟨p, 2, none⟩ (.int .i64 (c0 + 1))) := ⟨_, rfl⟩); (have G3 : ChgL (fun k => k = p ∨ inB l k) w2 w3 := by rw [hw3]; exact ChgL.chg ((Chg.refl p w2).setCell 2 _) (.inl rfl)); (have hW3 := fun (D : Nat) (hDp : D ≠ p) => show w3.heap[D]? = w2.heap[D]? from (by rw [hw3]; exact Below.heap_setCell w2 ⟨p, 2, none⟩ _ D hDp)); (rw [← hw3] at H3 ⊢); (clear hw3); (obtain ⟨w4, hw4⟩ : ∃ w4 : World, w4 = w3.drew := ⟨_, rfl⟩); (have H4 : PolAt w4 p ra len cap false l τ (c0 + 1) c1 c2 c3 := by rw [hw4]; exact H3.drew); (have G4 : Below w3.heap.size w3 w4 := by rw [hw4]; exact (Below.refl _ _).drew); (obtain ⟨d0, d1, d2, d3, d4, d5, df⟩ := H4.cells); (have f3 := df 3); (have f4 := df 4); (have f5 := df 5); (refine region_tail 9 (by kernel_rfl) (by kernel_rfl) ?_); (rw [← hw4]); (clear hw4); (simp only [List.take_succ_cons, List.take_zero, List.drop_succ_cons, List.drop_zero]); (repeat still_step); (refine wpStill_nil ?_); go_wp2
      (have hpl := H4.lt); (have hK2 : w2.heap[D]? = some (.deferred (some [])) := (G2.block D hDl).trans hK); (have hK3 : w3.heap[D]? = some (.deferred (some [])) := (hW3 D hDp).trans hK2); (have hK4 : w4.heap[D]? = some (.deferred (some [])) := (G4.block D (Array.getElem?_eq_some_iff.1 hK3).1).trans hK3); (have hKf := (Below.heap_setCell w4 ⟨p, 3, none⟩ (.int .i64 (c1 + 1)) D hDp).trans hK4); (refine ⟨by simp, .inl ⟨_, _, rfl, run_takeDeferred hKf, ?_⟩⟩); (refine ⟨_, results_tmp rfl _ _ _, ?_, ?_, ?_⟩); (focus exact rfl)
      · rw [HT.out, show c1 + hit (finZ 1 false true) 1 = c1 + 1 by show c1 + 1 = c1 + 1; omega, show c2 + hit (finZ 1 false true) 2 = c2 by show c2 + 0 = c2; omega]
        exact (H4.setAt ok 3 (c1 + 1) rfl).put (by omega) (fun r hr => by have := hinV r.b ⟨r, hr, rfl⟩; omega) (by have := hP.rlt; omega)
      · exact (((((hchp.trans (ChgL.of G2)).trans G3).trans (ChgL.of G4)).trans (ChgL.chg ((Chg.refl p w4).setCell 3 _) (.inl rfl)))).put (by omega) hKf
    · go_wp2
      (obtain ⟨w2, hw2⟩ : ∃ w2 : World, w2 = Z.drew := ⟨_, rfl⟩); (have H2 : PolAt w2 p ra len cap true l τ c0 c1 c2 c3 := by rw [hw2]; exact (HPZ).drew); (have G2 : Below Z.heap.size Z w2 := by rw [hw2]; exact (Below.refl _ _).drew); (obtain ⟨d0, d1, d2, d3, d4, d5, df⟩ := H2.cells); (have f2 := df 2); (refine region_tail 8 (by kernel_rfl) (by kernel_rfl) ?_); (rw [← hw2]); (clear hw2); (simp only [List.take_succ_cons, List.take_zero, List.drop_succ_cons, List.drop_zero]); (repeat still_step); (refine wpStill_nil ?_); go_wp2; (have H3 : PolAt (w2.setCell ⟨p, 2, none⟩ (.int .i64 (c0 + 1))) p ra len cap true l τ (c0 + 1) c1 c2 c3 := H2.setAt ok 2 (c0 + 1) rfl); (clear d0 d1 d2 d3 d4 d5 f2 df); (obtain ⟨w3, hw3⟩ : ∃ w3 : World, w3 = (w2.setCell ⟨p, 2, none⟩ (.int .i64 (c0 + 1))) := ⟨_, rfl⟩); (have G3 : ChgL (fun k => k = p ∨ inB l k) w2 w3 := by rw [hw3]; exact ChgL.chg ((Chg.refl p w2).setCell 2 _) (.inl rfl)); (have hW3 := fun (D : Nat) (hDp : D ≠ p) => show w3.heap[D]? = w2.heap[D]? from (by rw [hw3]; exact Below.heap_setCell w2 ⟨p, 2, none⟩ _ D hDp)); (rw [← hw3] at H3 ⊢); (clear hw3); (obtain ⟨w4, hw4⟩ : ∃ w4 : World, w4 = w3.drew := ⟨_, rfl⟩); (have H4 : PolAt w4 p ra len cap true l τ (c0 + 1) c1 c2 c3 := by rw [hw4]; exact H3.drew); (have G4 : Below w3.heap.size w3 w4 := by rw [hw4]; exact (Below.refl _ _).drew); (obtain ⟨d0, d1, d2, d3, d4, d5, df⟩ := H4.cells); (have f3 := df 3); (have f4 := df 4); (have f5 := df 5); (refine region_tail 9 (by kernel_rfl) (by kernel_rfl) ?_); (rw [← hw4]); (clear hw4); (simp only [List.take_succ_cons, List.take_zero, List.drop_succ_cons, List.drop_zero]); (repeat still_step); (refine wpStill_nil ?_); go_wp2
      (have hpl := H4.lt); (have hK2 : w2.heap[D]? = some (.deferred (some [])) := (G2.block D hDl).trans hK); (have hK3 : w3.heap[D]? = some (.deferred (some [])) := (hW3 D hDp).trans hK2); (have hK4 : w4.heap[D]? = some (.deferred (some [])) := (G4.block D (Array.getElem?_eq_some_iff.1 hK3).1).trans hK3); (have hKf := (Below.heap_setCell w4 ⟨p, 3, none⟩ (.int .i64 (c1 + 1)) D hDp).trans hK4); (refine ⟨by simp, .inl ⟨_, _, rfl, run_takeDeferred hKf, ?_⟩⟩); (refine ⟨_, results_tmp rfl _ _ _, ?_, ?_, ?_⟩); (focus exact rfl)
      · rw [HT.out, show c1 + hit (finZ 1 true false) 1 = c1 + 1 by show c1 + 1 = c1 + 1; omega, show c2 + hit (finZ 1 true false) 2 = c2 by show c2 + 0 = c2; omega]
        exact (H4.setAt ok 3 (c1 + 1) rfl).put (by omega) (fun r hr => by have := hinV r.b ⟨r, hr, rfl⟩; omega) (by have := hP.rlt; omega)
      · exact (((((hchp.trans (ChgL.of G2)).trans G3).trans (ChgL.of G4)).trans (ChgL.chg ((Chg.refl p w4).setCell 3 _) (.inl rfl)))).put (by omega) hKf
    · go_wp2
      (obtain ⟨w2, hw2⟩ : ∃ w2 : World, w2 = Z.drew := ⟨_, rfl⟩); (have H2 : PolAt w2 p ra len cap true l τ c0 c1 c2 c3 := by rw [hw2]; exact (HPZ).drew); (have G2 : Below Z.heap.size Z w2 := by rw [hw2]; exact (Below.refl _ _).drew); (obtain ⟨d0, d1, d2, d3, d4, d5, df⟩ := H2.cells); (have f2 := df 2); (refine region_tail 8 (by kernel_rfl) (by kernel_rfl) ?_); (rw [← hw2]); (clear hw2); (simp only [List.take_succ_cons, List.take_zero, List.drop_succ_cons, List.drop_zero]); (repeat still_step); (refine wpStill_nil ?_); go_wp2; (have H3 : PolAt (w2.setCell ⟨p, 2, none⟩ (.int .i64 (c0 + 1))) p ra len cap true l τ (c0 + 1) c1 c2 c3 := H2.setAt ok 2 (c0 + 1) rfl); (clear d0 d1 d2 d3 d4 d5 f2 df); (obtain ⟨w3, hw3⟩ : ∃ w3 : World, w3 = (w2.setCell ⟨p, 2, none⟩ (.int .i64 (c0 + 1))) := ⟨_, rfl⟩); (have G3 : ChgL (fun k => k = p ∨ inB l k) w2 w3 := by rw [hw3]; exact ChgL.chg ((Chg.refl p w2).setCell 2 _) (.inl rfl)); (have hW3 := fun (D : Nat) (hDp : D ≠ p) => show w3.heap[D]? = w2.heap[D]? from (by rw [hw3]; exact Below.heap_setCell w2 ⟨p, 2, none⟩ _ D hDp)); (rw [← hw3] at H3 ⊢); (clear hw3); (obtain ⟨w4, hw4⟩ : ∃ w4 : World, w4 = w3.drew := ⟨_, rfl⟩); (have H4 : PolAt w4 p ra len cap true l τ (c0 + 1) c1 c2 c3 := by rw [hw4]; exact H3.drew); (have G4 : Below w3.heap.size w3 w4 := by rw [hw4]; exact (Below.refl _ _).drew); (obtain ⟨d0, d1, d2, d3, d4, d5, df⟩ := H4.cells); (have f3 := df 3); (have f4 := df 4); (have f5 := df 5); (refine region_tail 9 (by kernel_rfl) (by kernel_rfl) ?_); (rw [← hw4]); (clear hw4); (simp only [List.take_succ_cons, List.take_zero, List.drop_succ_cons, List.drop_zero]); (repeat still_step); (refine wpStill_nil ?_); go_wp2
      (have hpl := H4.lt); (have hK2 : w2.heap[D]? = some (.deferred (some [])) := (G2.block D hDl).trans hK); (have hK3 : w3.heap[D]? = some (.deferred (some [])) := (hW3 D hDp).trans hK2); (have hK4 : w4.heap[D]? = some (.deferred (some [])) := (G4.block D (Array.getElem?_eq_some_iff.1 hK3).1).trans hK3); (have hKf := (Below.heap_setCell w4 ⟨p, 4, none⟩ (.int .i64 (c2 + 1)) D hDp).trans hK4); (refine ⟨by simp, .inl ⟨_, _, rfl, run_takeDeferred hKf, ?_⟩⟩); (refine ⟨_, results_tmp rfl _ _ _, ?_, ?_, ?_⟩); (focus exact rfl)
      · rw [HT.out, show c1 + hit (finZ 1 true true) 1 = c1 by show c1 + 0 = c1; omega, show c2 + hit (finZ 1 true true) 2 = c2 + 1 by show c2 + 1 = c2 + 1; omega]
        exact (H4.setAt ok 4 (c2 + 1) rfl).put (by omega) (fun r hr => by have := hinV r.b ⟨r, hr, rfl⟩; omega) (by have := hP.rlt; omega)
      · exact (((((hchp.trans (ChgL.of G2)).trans G3).trans (ChgL.of G4)).trans (ChgL.chg ((Chg.refl p w4).setCell 4 _) (.inl rfl)))).put (by omega) hKf
  case stop =>
    rintro D c pre Z _ _ hf _
    exact hf.elim
theorem take2 {p ra len cap : Nat} {al : Bool} {l : List Rs} {σ : Bst} {c0 c1 c2 c3 : Int} (t clp : Int) (z : Bool) (hz : (clp == 0) = z) (w : World) (ok : PolOk p ra len l) (hP : PolAt w p ra len cap al l σ c0 c1 c2 c3) (hM : Bd l σ 2305843009213693952) (b0 : 0 ≤ c0 ∧ c0 ≤ 1000000) (b1 : 0 ≤ c1 ∧ c1 ≤ 1000000) (b2 : 0 ≤ c2 ∧ c2 ≤ 1000000) (hv : verdZ l σ t z = 2) :
    Calls Tryz.prog 15 #[.pointer (some ⟨p, 0, none⟩), .int .i64 t, .int .i64 clp] w fun e w' => e = .returned (.int .i64 (finZ 2 al z)) ∧ PolAt w' p ra len cap al l (nxtS l σ t 2 z) (c0 + 1) (c1 + hit (finZ 2 al z) 1) (c2 + hit (finZ 2 al z) 2) c3 ∧ ChgL (fun k => k = p ∨ inB l k) w w' := by
  have hM2 : Bd l σ 4611686018427387904 := fun r hr => by have := hM r hr; omega
  have HV := Lib.hid hv
  have HZ := Lib.hid hz
  clear hv
  refine (callsIn_wide (n := 9)).1 ?_
  refine callsIn_of_wp_marks Tryz.func15 rfl trivial ?_ rfl
  refine wpIn_wide.2 ?_
  simp only [Tryz.ntmps15, List.size_toArray, List.length_cons, List.length_nil, Nat.reduceAdd, Nat.reduceSub, Array.replicate_succ, Array.replicate_zero, List.push_toArray, List.append_toArray, List.nil_append, List.cons_append]
  clear hz
  go_wp2_with (first | (go_at_call 44; (with_reducible refine (verdict_any t clp z HZ.out _ ok (hP.below ((Below.refl _ _).alloc (Nat.le_refl _) _)) hM2).mono ?_); rw [HV.out]; rintro e w1 ⟨rfl, hb_w1⟩; have k0 : w1.cell? ⟨w.heap.size, 0, none⟩ = some (.int .i64 t) := cell_keep hb_w1 (cell_top rfl rfl)) | (go_at_call 45; refine (asked_any _ _ _).mono ?_; rintro e w9 ⟨rfl, rfl⟩))
  have hB1 : Below w.heap.size w w1 := ((Below.refl _ _).alloc (Nat.le_refl _) _).trans (hb_w1.mono (by simp))
  have hs1 : w.heap.size < w1.heap.size := World.block_lt_of_cell? _ _ k0
  obtain ⟨V, hV⟩ : ∃ V, V = (w1.alloc (.cells #[.pointer (some ⟨p, 0, none⟩)] 47)).alloc (.cells #[.int .i64 1] 3) := ⟨_, rfl⟩
  have hBV : Below w1.heap.size w1 V := by rw [hV]; exact ((Below.refl _ _).alloc (Nat.le_refl _) _).alloc (by simp) _
  have k2 : V.cell? ⟨w1.heap.size, 0, none⟩ = some (.pointer (some ⟨p, 0, none⟩)) := by rw [hV]; simp [go_sem]
  have k3 : V.cell? ⟨w1.heap.size + 1, 0, none⟩ = some (.int .i64 1) := by rw [hV]; simp [go_sem]
  have sV : V.heap.size = w1.heap.size + 2 := by rw [hV]; simp
  rw [← hV]
  clear hV hb_w1
  have hBW : Below w.heap.size w V := hB1.trans (hBV.mono hB1.size)
  have k0 := cell_keep hBV k0
  have hPV := hP.below hBW
  have hlen := ok.length
  have hinV : ∀ k, inB l k → k < w.heap.size := fun k ⟨r, hr, e⟩ => by rw [e]; exact (hP.bucks r hr).lt
  obtain ⟨sg, hsg⟩ : ∃ sg : List {r // r ∈ l} → Bst, sg = fun pre => pre.foldl (fun σ x => tk t σ x.1) σ := ⟨_, rfl⟩
  have sg0 : sg [] = σ := by rw [hsg]; rfl
  have sg1 : ∀ pre x, sg (pre ++ [x]) = tk t (sg pre) x.1 := fun pre x => by rw [hsg]; simp [List.foldl_append]
  have sg2 : sg (l.attach.filter (fun x => x.1.asks false)) = nxtS l σ t 2 z := by
    rw [hsg]
    unfold nxtS
    rw [if_neg (by decide), ← filter_attach, List.foldl_map]
    rfl
  have SG1 := Lib.hid sg1
  have SG2 := Lib.hid sg2
  clear sg1 sg2 hsg
  refine (wpIn_wide (n := 9)).1 ?_
  refine wpIn_rangeFunc_ownH rfl (by omega) (gf := 70) (lb := #[.pointer (some ⟨w1.heap.size, 0, none⟩), .pointer (some ⟨w1.heap.size + 1, 0, none⟩)]) rfl trivial (enters_of Tryz.func70 (by kernel_rfl) rfl)
    (asked_stops (Subtype.val : {r // r ∈ l} → Rs) Fence.wide (9 - 1) trivial rfl (by omega) p ra w1.heap.size (w1.heap.size + 1) len cap 1 false rfl l.attach (by rw [List.length_attach]; exact hlen) (by have := ok.most; omega) V k2 k3 hPV.cells.2.1
      (fun i x hx => hPV.rules i x.1 (by
        have := congrArg (Option.map Subtype.val) hx
        rw [← List.getElem?_map, List.attach_map_subtype_val] at this
        exact this)))
    Kept.trans (kept_b hPV.rlt (by omega)) (Below.refl _ _) (fun _ => rfl)
    (fun pre Z => Z.cell? ⟨w.heap.size, 0, none⟩ = some (.int .i64 t) ∧ (∀ y ∈ l, BuckAt Z y.b y.st y.ea (sg pre y.b).1 (sg pre y.b).2) ∧ Bd l (sg pre) (2305843009213693952 + pre.length * 1099511627776) ∧ ChgL (inB l) w Z)
    (fun _ _ _ => False)
    (fun pre A C row hs hg hr => ⟨cell_kept hs.1 hg (fun r e => (hr r e).2), fun y hy => (grownBy_keeps_cells hg (fun r e => (hr r e).2) (hs.2.1 y hy) rfl).trans (hs.2.1 y hy), hs.2.2.1, hs.2.2.2.grown hBW.size hg hr⟩)
    (fun _ _ _ _ _ hs _ _ => hs)
    ⟨k0, fun y hy => by rw [sg0]; exact hPV.bucks y hy, by rw [sg0]; exact fun r hr => by have := hM r hr; simp; omega, hBW_of hBW⟩
    (fun x a' Z => ∃ q, a' = { tmps := #[.pointer (some ⟨p, 0, none⟩), .int .i64 t, .int .i64 clp, undef, .pointer (some ⟨w.heap.size, 0, none⟩), undef, .int .i64 0, .int .i64 2, .int .i64 1, .pointer (some ⟨q, 0, none⟩), .pointer (some ⟨p, 0, none⟩), .bool false, .pointer (some ⟨p, 0, none⟩), .int .i64 t, .int .i64 clp, .int .i64 2, .int .i64 clp, .int .i64 2, .bool true, .int .i64 2, .bool true, .pointer (some ⟨p, 0, none⟩), .int .i64 1, .func (.func 70) #[] #[.pointer (some ⟨w1.heap.size, 0, none⟩), .pointer (some ⟨w1.heap.size + 1, 0, none⟩)], .agg x.1.val, undef, undef, undef, undef, undef, undef, undef, undef, undef, undef, undef, undef, undef, undef, undef, undef, undef, undef, undef, undef, undef, undef, undef, undef, undef, undef, undef, undef, undef, undef, undef, undef, undef, undef, undef, undef], defers := [] } ∧ w.heap.size < q ∧ RsAt Z q 0 x.1)
    (fun x a' _ A C row hs hg hr => by
      obtain ⟨q, he, hq, h0, h1, h2, h3, h4⟩ := hs
      exact ⟨q, he, hq, cell_kept h0 hg (fun r e => (hr r e).2), cell_kept h1 hg (fun r e => (hr r e).2), cell_kept h2 hg (fun r e => (hr r e).2), cell_kept h3 hg (fun r e => (hr r e).2), cell_kept h4 hg (fun r e => (hr r e).2)⟩)
    ?assign ?body ?done ?stop
  case assign =>
    intro l' pre x Z K hi hK
    have b1 : Below Z.heap.size Z (Z.alloc (.cells x.1.val 123)) := (Below.refl _ _).alloc (Nat.le_refl _) _
    have HK := Lib.hid hK
    have HI := Lib.hid hi
    clear hK hi
    gi_wp2
    have hzl : w.heap.size < Z.heap.size := World.block_lt_of_cell? _ _ HI.out.1
    exact HK.out _ _ ⟨b1.size, fun k o _ hk _ => (b1.block k (Array.getElem?_eq_some_iff.1 hk).1).trans hk⟩ (Kept.of b1) ⟨cell_keep b1 HI.out.1, fun y hy => (HI.out.2.1 y hy).below b1, HI.out.2.2.1, HI.out.2.2.2.trans (ChgL.of b1)⟩ ⟨Z.heap.size, rfl, hzl, cell_top rfl rfl, cell_top rfl rfl, cell_top rfl rfl, cell_top rfl rfl, cell_top rfl rfl⟩
  case body =>
    rintro l' pre x a' Z hl' ⟨rr, hrec⟩ ⟨ht, hbk, hbd, hch⟩ ⟨q, rfl, hq, d0, d1, d2, d3, d4⟩ hlen'
    have hb := hbk x.1 x.2
    have hbx := hbd x.1 x.2
    have hsp := ok.span x.1 x.2
    have hmost := ok.most
    have hlt : x.1.b < w.heap.size := hinV _ ⟨x.1, x.2, rfl⟩
    have hpl : (pre.length : Int) ≤ 2 := by omega
    have hbd1 := tk_bd ok hbd (by omega) t x.1 x.2
    have hlp : ((pre ++ [x]).length : Int) = pre.length + 1 := by simp
    have hf26 : Fence.wide.fn 175 := trivial
    simp only [Nat.zero_mul, Nat.zero_add] at d0 d1 d2 d3 d4
    have HS := SG1.out pre x
    have HS := Lib.hid HS
    have HBK := Lib.hid hbk
    have HBD := Lib.hid hbd1
    have HLP := Lib.hid hlp
    have hx2 := x.2
    clear hrec hbk hbd hbd1 hlp
    by_cases hf : fitR (sg pre) t x.1 = true
    · have HF := Lib.hid hf
      have hf2 : fitsB x.1.ea (sg pre x.1.b).1 (sg pre x.1.b).2 t = true := hf
      have HF2 := Lib.hid hf2
      clear hf hf2
      gi_wp2_with (gi_at_call 175; (with_reducible refine (takeY_in _ _ _ _ _ _ _ t _ hb (by omega) (by omega) (by omega) (by omega) (by omega) (by omega) HF2.out).mono ?_); rintro e wf ⟨rfl, hbn, hcg⟩)
      refine ⟨⟨hcg.size, fun k o hk ho _ => (hcg.block k (Array.getElem?_eq_some_iff.1 ho).1 (by omega)).trans ho⟩, ⟨hcg.size, fun k hk hl => hcg.block k hl (by have := (ok.bp x.1 x.2).2; omega)⟩, hcg.cell (by omega) ht, ?_, ?_, hch.trans (ChgL.chg hcg ⟨x.1, x.2, rfl⟩)⟩
      · rw [HS.out]; exact buck_tk ok x.2 HF.out HBK.out hbn hcg
      · rw [HS.out, HLP.out, Int.add_mul, ← Int.add_assoc]; exact HBD.out
    · have hf : fitR (sg pre) t x.1 = false := by simpa using hf
      have HF := Lib.hid hf
      have hf2 : fitsB x.1.ea (sg pre x.1.b).1 (sg pre x.1.b).2 t = false := hf
      have HF2 := Lib.hid hf2
      clear hf hf2
      gi_wp2_with (gi_at_call 175; (with_reducible refine (takeN_in _ _ _ _ _ _ _ t _ hb (by omega) (by omega) (by omega) (by omega) HF2.out).mono ?_); rintro e wf ⟨rfl, m, rfl⟩)
      refine ⟨keeps_drew, kept_drew, ht, ?_, ?_, ⟨hch.os, hch.tape, hch.output, hch.size, hch.block⟩⟩
      · rw [HS.out, tk_same HF.out]; exact HBK.out
      · rw [HS.out, HLP.out, Int.add_mul, ← Int.add_assoc]; exact HBD.out
  case done =>
    rintro D ys Z hD rfl ⟨ht, hbk, hbd, hch⟩ hK
    have hbk2 : ∀ y ∈ l, BuckAt Z y.b y.st y.ea (nxtS l σ t 2 z y.b).1 (nxtS l σ t 2 z y.b).2 := by rw [← SG2.out]; exact hbk
    have HPZ := hP.step ok hch hbk2
    obtain ⟨τ, hτ⟩ : ∃ τ, nxtS l σ t 2 z = τ := ⟨_, rfl⟩
    rw [hτ] at HPZ
    have HT := Lib.hid hτ
    clear hτ
    have hcells := HPZ.cells
    have a0 := hcells.1
    have hzc := HZ.out
    have hchp : ChgL (fun k => k = p ∨ inB l k) w Z := hch.mono (fun k h => .inr h)
    have hDp : D ≠ p := by have := hP.lt; have := hBW.size; omega
    have y0 : IntKind.i64.wrap (c0 + 1) = c0 + 1 := IntWalk.i64_in _ (by omega)
    have y1 : IntKind.i64.wrap (c1 + 1) = c1 + 1 := IntWalk.i64_in _ (by omega)
    have y2 : IntKind.i64.wrap (c2 + 1) = c2 + 1 := IntWalk.i64_in _ (by omega)
    have hDl : D < Z.heap.size := (Array.getElem?_eq_some_iff.1 hK).1
    clear hbk hbd hch hbk2 hcells ht k0 k2 k3
    cases al <;> cases z
    · go_wp2
      (obtain ⟨w2, hw2⟩ : ∃ w2 : World, w2 = Z.drew := ⟨_, rfl⟩); (have H2 : PolAt w2 p ra len cap false l τ c0 c1 c2 c3 := by rw [hw2]; exact (HPZ).drew); (have G2 : Below Z.heap.size Z w2 := by rw [hw2]; exact (Below.refl _ _).drew); (obtain ⟨d0, d1, d2, d3, d4, d5, df⟩ := H2.cells); (have f2 := df 2); (refine region_tail 8 (by kernel_rfl) (by kernel_rfl) ?_); (rw [← hw2]); (clear hw2); (simp only [List.take_succ_cons, List.take_zero, List.drop_succ_cons, List.drop_zero]); (repeat still_step); (refine wpStill_nil ?_); go_wp2; (have H3 : PolAt (w2.setCell ⟨p, 2, none⟩ (.int .i64 (c0 + 1))) p ra len cap false l τ (c0 + 1) c1 c2 c3 := H2.setAt ok 2 (c0 + 1) rfl); (clear d0 d1 d2 d3 d4 d5 f2 df); (obtain ⟨w3, hw3⟩ : ∃ w3 : World, w3 = (w2.setCell ⟨p, 2, none⟩ (.int .i64 (c0 + 1))) := ⟨_, rfl⟩); (have G3 : ChgL (fun k => k = p ∨ inB l k) w2 w3 := by rw [hw3]; exact ChgL.chg ((Chg.refl p w2).setCell 2 _) (.inl rfl)); (have hW3 := fun (D : Nat) (hDp : D ≠ p) => show w3.heap[D]? = w2.heap[D]? from (by rw [hw3]; exact Below.heap_setCell w2 ⟨p, 2, none⟩ _ D hDp)); (rw [← hw3] at H3 ⊢); (clear hw3); (obtain ⟨w4, hw4⟩ : ∃ w4 : World, w4 = w3.drew := ⟨_, rfl⟩); (have H4 : PolAt w4 p ra len cap false l τ (c0 + 1) c1 c2 c3 := by rw [hw4]; exact H3.drew); (have G4 : Below w3.heap.size w3 w4 := by rw [hw4]; exact (Below.refl _ _).drew); (obtain ⟨d0, d1, d2, d3, d4, d5, df⟩ := H4.cells); (have f3 := df 3); (have f4 := df 4); (have f5 := df 5); (refine region_tail 9 (by kernel_rfl) (by kernel_rfl) ?_); (rw [← hw4]); (clear hw4); (simp only [List.take_succ_cons, List.take_zero, List.drop_succ_cons, List.drop_zero]); (repeat still_step); (refine wpStill_nil ?_); go_wp2
      (have hpl := H4.lt); (have hK2 : w2.heap[D]? = some (.deferred (some [])) := (G2.block D hDl).trans hK); (have hK3 : w3.heap[D]? = some (.deferred (some [])) := (hW3 D hDp).trans hK2); (have hK4 : w4.heap[D]? = some (.deferred (some [])) := (G4.block D (Array.getElem?_eq_some_iff.1 hK3).1).trans hK3); (have hKf := (Below.heap_setCell w4 ⟨p, 4, none⟩ (.int .i64 (c2 + 1)) D hDp).trans hK4); (refine ⟨by simp, .inl ⟨_, _, rfl, run_takeDeferred hKf, ?_⟩⟩); (refine ⟨_, results_tmp rfl _ _ _, ?_, ?_, ?_⟩); (focus exact rfl)
      · rw [HT.out, show c1 + hit (finZ 2 false false) 1 = c1 by show c1 + 0 = c1; omega, show c2 + hit (finZ 2 false false) 2 = c2 + 1 by show c2 + 1 = c2 + 1; omega]
        exact (H4.setAt ok 4 (c2 + 1) rfl).put (by omega) (fun r hr => by have := hinV r.b ⟨r, hr, rfl⟩; omega) (by have := hP.rlt; omega)
      · exact (((((hchp.trans (ChgL.of G2)).trans G3).trans (ChgL.of G4)).trans (ChgL.chg ((Chg.refl p w4).setCell 4 _) (.inl rfl)))).put (by omega) hKf
    · go_wp2
      (obtain ⟨w2, hw2⟩ : ∃ w2 : World, w2 = Z.drew := ⟨_, rfl⟩); (have H2 : PolAt w2 p ra len cap false l τ c0 c1 c2 c3 := by rw [hw2]; exact (HPZ).drew); (have G2 : Below Z.heap.size Z w2 := by rw [hw2]; exact (Below.refl _ _).drew); (obtain ⟨d0, d1, d2, d3, d4, d5, df⟩ := H2.cells); (have f2 := df 2); (refine region_tail 8 (by kernel_rfl) (by kernel_rfl) ?_); (rw [← hw2]); (clear hw2); (simp only [List.take_succ_cons, List.take_zero, List.drop_succ_cons, List.drop_zero]); (repeat still_step); (refine wpStill_nil ?_); go_wp2; (have H3 : PolAt (w2.setCell ⟨p, 2, none⟩ (.int .i64 (c0 + 1))) p ra len cap false l τ (c0 + 1) c1 c2 c3 := H2.setAt ok 2 (c0 + 1) rfl); (clear d0 d1 d2 d3 d4 d5 f2 df); (obtain ⟨w3, hw3⟩ : ∃ w3 : World, w3 = (w2.setCell ⟨p, 2, none⟩ (.int .i64 (c0 + 1))) := ⟨_, rfl⟩); (have G3 : ChgL (fun k => k = p ∨ inB l k) w2 w3 := by rw [hw3]; exact ChgL.chg ((Chg.refl p w2).setCell 2 _) (.inl rfl)); (have hW3 := fun (D : Nat) (hDp : D ≠ p) => show w3.heap[D]? = w2.heap[D]? from (by rw [hw3]; exact Below.heap_setCell w2 ⟨p, 2, none⟩ _ D hDp)); (rw [← hw3] at H3 ⊢); (clear hw3); (obtain ⟨w4, hw4⟩ : ∃ w4 : World, w4 = w3.drew := ⟨_, rfl⟩); (have H4 : PolAt w4 p ra len cap false l τ (c0 + 1) c1 c2 c3 := by rw [hw4]; exact H3.drew); (have G4 : Below w3.heap.size w3 w4 := by rw [hw4]; exact (Below.refl _ _).drew); (obtain ⟨d0, d1, d2, d3, d4, d5, df⟩ := H4.cells); (have f3 := df 3); (have f4 := df 4); (have f5 := df 5); (refine region_tail 9 (by kernel_rfl) (by kernel_rfl) ?_); (rw [← hw4]); (clear hw4); (simp only [List.take_succ_cons, List.take_zero, List.drop_succ_cons, List.drop_zero]); (repeat still_step); (refine wpStill_nil ?_); go_wp2
      (have hpl := H4.lt); (have hK2 : w2.heap[D]? = some (.deferred (some [])) := (G2.block D hDl).trans hK); (have hK3 : w3.heap[D]? = some (.deferred (some [])) := (hW3 D hDp).trans hK2); (have hK4 : w4.heap[D]? = some (.deferred (some [])) := (G4.block D (Array.getElem?_eq_some_iff.1 hK3).1).trans hK3); (have hKf := (Below.heap_setCell w4 ⟨p, 4, none⟩ (.int .i64 (c2 + 1)) D hDp).trans hK4); (refine ⟨by simp, .inl ⟨_, _, rfl, run_takeDeferred hKf, ?_⟩⟩); (refine ⟨_, results_tmp rfl _ _ _, ?_, ?_, ?_⟩); (focus exact rfl)
      · rw [HT.out, show c1 + hit (finZ 2 false true) 1 = c1 by show c1 + 0 = c1; omega, show c2 + hit (finZ 2 false true) 2 = c2 + 1 by show c2 + 1 = c2 + 1; omega]
        exact (H4.setAt ok 4 (c2 + 1) rfl).put (by omega) (fun r hr => by have := hinV r.b ⟨r, hr, rfl⟩; omega) (by have := hP.rlt; omega)
      · exact (((((hchp.trans (ChgL.of G2)).trans G3).trans (ChgL.of G4)).trans (ChgL.chg ((Chg.refl p w4).setCell 4 _) (.inl rfl)))).put (by omega) hKf
    · go_wp2
      (obtain ⟨w2, hw2⟩ : ∃ w2 : World, w2 = Z.drew := ⟨_, rfl⟩); (have H2 : PolAt w2 p ra len cap true l τ c0 c1 c2 c3 := by rw [hw2]; exact (HPZ).drew); (have G2 : Below Z.heap.size Z w2 := by rw [hw2]; exact (Below.refl _ _).drew); (obtain ⟨d0, d1, d2, d3, d4, d5, df⟩ := H2.cells); (have f2 := df 2); (refine region_tail 8 (by kernel_rfl) (by kernel_rfl) ?_); (rw [← hw2]); (clear hw2); (simp only [List.take_succ_cons, List.take_zero, List.drop_succ_cons, List.drop_zero]); (repeat still_step); (refine wpStill_nil ?_); go_wp2; (have H3 : PolAt (w2.setCell ⟨p, 2, none⟩ (.int .i64 (c0 + 1))) p ra len cap true l τ (c0 + 1) c1 c2 c3 := H2.setAt ok 2 (c0 + 1) rfl); (clear d0 d1 d2 d3 d4 d5 f2 df); (obtain ⟨w3, hw3⟩ : ∃ w3 : World, w3 = (w2.setCell ⟨p, 2, none⟩ (.int .i64 (c0 + 1))) := ⟨_, rfl⟩); (have G3 : ChgL (fun k => k = p ∨ inB l k) w2 w3 := by rw [hw3]; exact ChgL.chg ((Chg.refl p w2).setCell 2 _) (.inl rfl)); (have hW3 := fun (D : Nat) (hDp : D ≠ p) => show w3.heap[D]? = w2.heap[D]? from (by rw [hw3]; exact Below.heap_setCell w2 ⟨p, 2, none⟩ _ D hDp)); (rw [← hw3] at H3 ⊢); (clear hw3); (obtain ⟨w4, hw4⟩ : ∃ w4 : World, w4 = w3.drew := ⟨_, rfl⟩); (have H4 : PolAt w4 p ra len cap true l τ (c0 + 1) c1 c2 c3 := by rw [hw4]; exact H3.drew); (have G4 : Below w3.heap.size w3 w4 := by rw [hw4]; exact (Below.refl _ _).drew); (obtain ⟨d0, d1, d2, d3, d4, d5, df⟩ := H4.cells); (have f3 := df 3); (have f4 := df 4); (have f5 := df 5); (refine region_tail 9 (by kernel_rfl) (by kernel_rfl) ?_); (rw [← hw4]); (clear hw4); (simp only [List.take_succ_cons, List.take_zero, List.drop_succ_cons, List.drop_zero]); (repeat still_step); (refine wpStill_nil ?_); go_wp2
      (have hpl := H4.lt); (have hK2 : w2.heap[D]? = some (.deferred (some [])) := (G2.block D hDl).trans hK); (have hK3 : w3.heap[D]? = some (.deferred (some [])) := (hW3 D hDp).trans hK2); (have hK4 : w4.heap[D]? = some (.deferred (some [])) := (G4.block D (Array.getElem?_eq_some_iff.1 hK3).1).trans hK3); (have hKf := (Below.heap_setCell w4 ⟨p, 4, none⟩ (.int .i64 (c2 + 1)) D hDp).trans hK4); (refine ⟨by simp, .inl ⟨_, _, rfl, run_takeDeferred hKf, ?_⟩⟩); (refine ⟨_, results_tmp rfl _ _ _, ?_, ?_, ?_⟩); (focus exact rfl)
      · rw [HT.out, show c1 + hit (finZ 2 true false) 1 = c1 by show c1 + 0 = c1; omega, show c2 + hit (finZ 2 true false) 2 = c2 + 1 by show c2 + 1 = c2 + 1; omega]
        exact (H4.setAt ok 4 (c2 + 1) rfl).put (by omega) (fun r hr => by have := hinV r.b ⟨r, hr, rfl⟩; omega) (by have := hP.rlt; omega)
      · exact (((((hchp.trans (ChgL.of G2)).trans G3).trans (ChgL.of G4)).trans (ChgL.chg ((Chg.refl p w4).setCell 4 _) (.inl rfl)))).put (by omega) hKf
    · go_wp2
      (obtain ⟨w2, hw2⟩ : ∃ w2 : World, w2 = Z.drew := ⟨_, rfl⟩); (have H2 : PolAt w2 p ra len cap true l τ c0 c1 c2 c3 := by rw [hw2]; exact (HPZ).drew); (have G2 : Below Z.heap.size Z w2 := by rw [hw2]; exact (Below.refl _ _).drew); (obtain ⟨d0, d1, d2, d3, d4, d5, df⟩ := H2.cells); (have f2 := df 2); (refine region_tail 8 (by kernel_rfl) (by kernel_rfl) ?_); (rw [← hw2]); (clear hw2); (simp only [List.take_succ_cons, List.take_zero, List.drop_succ_cons, List.drop_zero]); (repeat still_step); (refine wpStill_nil ?_); go_wp2; (have H3 : PolAt (w2.setCell ⟨p, 2, none⟩ (.int .i64 (c0 + 1))) p ra len cap true l τ (c0 + 1) c1 c2 c3 := H2.setAt ok 2 (c0 + 1) rfl); (clear d0 d1 d2 d3 d4 d5 f2 df); (obtain ⟨w3, hw3⟩ : ∃ w3 : World, w3 = (w2.setCell ⟨p, 2, none⟩ (.int .i64 (c0 + 1))) := ⟨_, rfl⟩); (have G3 : ChgL (fun k => k = p ∨ inB l k) w2 w3 := by rw [hw3]; exact ChgL.chg ((Chg.refl p w2).setCell 2 _) (.inl rfl)); (have hW3 := fun (D : Nat) (hDp : D ≠ p) => show w3.heap[D]? = w2.heap[D]? from (by rw [hw3]; exact Below.heap_setCell w2 ⟨p, 2, none⟩ _ D hDp)); (rw [← hw3] at H3 ⊢); (clear hw3); (obtain ⟨w4, hw4⟩ : ∃ w4 : World, w4 = w3.drew := ⟨_, rfl⟩); (have H4 : PolAt w4 p ra len cap true l τ (c0 + 1) c1 c2 c3 := by rw [hw4]; exact H3.drew); (have G4 : Below w3.heap.size w3 w4 := by rw [hw4]; exact (Below.refl _ _).drew); (obtain ⟨d0, d1, d2, d3, d4, d5, df⟩ := H4.cells); (have f3 := df 3); (have f4 := df 4); (have f5 := df 5); (refine region_tail 9 (by kernel_rfl) (by kernel_rfl) ?_); (rw [← hw4]); (clear hw4); (simp only [List.take_succ_cons, List.take_zero, List.drop_succ_cons, List.drop_zero]); (repeat still_step); (refine wpStill_nil ?_); go_wp2
      (have hpl := H4.lt); (have hK2 : w2.heap[D]? = some (.deferred (some [])) := (G2.block D hDl).trans hK); (have hK3 : w3.heap[D]? = some (.deferred (some [])) := (hW3 D hDp).trans hK2); (have hK4 : w4.heap[D]? = some (.deferred (some [])) := (G4.block D (Array.getElem?_eq_some_iff.1 hK3).1).trans hK3); (have hKf := (Below.heap_setCell w4 ⟨p, 4, none⟩ (.int .i64 (c2 + 1)) D hDp).trans hK4); (refine ⟨by simp, .inl ⟨_, _, rfl, run_takeDeferred hKf, ?_⟩⟩); (refine ⟨_, results_tmp rfl _ _ _, ?_, ?_, ?_⟩); (focus exact rfl)
      · rw [HT.out, show c1 + hit (finZ 2 true true) 1 = c1 by show c1 + 0 = c1; omega, show c2 + hit (finZ 2 true true) 2 = c2 + 1 by show c2 + 1 = c2 + 1; omega]
        exact (H4.setAt ok 4 (c2 + 1) rfl).put (by omega) (fun r hr => by have := hinV r.b ⟨r, hr, rfl⟩; omega) (by have := hP.rlt; omega)
      · exact (((((hchp.trans (ChgL.of G2)).trans G3).trans (ChgL.of G4)).trans (ChgL.chg ((Chg.refl p w4).setCell 4 _) (.inl rfl)))).put (by omega) hKf
  case stop =>
    rintro D c pre Z _ _ hf _
    exact hf.elim
/-- what a policer does with a cell. -/
def lastZ (l : List Rs) (σ : Bst) (t : Int) (z al : Bool) : Int := finZ (verdZ l σ t z) al z
def nextS (l : List Rs) (σ : Bst) (t : Int) (z : Bool) : Bst := nxtS l σ t (verdZ l σ t z) z
theorem lastZ_ex (l : List Rs) (σ : Bst) (t : Int) (z al : Bool) : lastZ l σ t z al = 1 ∨ lastZ l σ t z al = 2 ∨ lastZ l σ t z al = 3 := by
  unfold lastZ finZ
  split
  · exact .inr (.inl rfl)
  · exact verdZ_ex l σ t z
theorem ptake_any {p ra len cap : Nat} {al : Bool} {l : List Rs} {σ : Bst} {c0 c1 c2 c3 : Int} (t clp : Int) (z : Bool) (hz : (clp == 0) = z) (w : World) (ok : PolOk p ra len l) (hP : PolAt w p ra len cap al l σ c0 c1 c2 c3) (hM : Bd l σ 2305843009213693952) (b0 : 0 ≤ c0 ∧ c0 ≤ 1000000) (b1 : 0 ≤ c1 ∧ c1 ≤ 1000000) (b2 : 0 ≤ c2 ∧ c2 ≤ 1000000) (b3 : 0 ≤ c3 ∧ c3 ≤ 1000000) :
    Calls Tryz.prog 15 #[.pointer (some ⟨p, 0, none⟩), .int .i64 t, .int .i64 clp] w fun e w' => e = .returned (.int .i64 (lastZ l σ t z al)) ∧ PolAt w' p ra len cap al l (nextS l σ t z) (c0 + 1) (c1 + hit (lastZ l σ t z al) 1) (c2 + hit (lastZ l σ t z al) 2) (c3 + hit (lastZ l σ t z al) 3) ∧ ChgL (fun k => k = p ∨ inB l k) w w' := by
  have e3 : ∀ v, v = 1 ∨ v = 2 → c3 + hit (finZ v al z) 3 = c3 := fun v hv => by
    have h1 : finZ v al z = 1 ∨ finZ v al z = 2 := by
      unfold finZ; split
      · exact .inr rfl
      · exact hv
    unfold hit
    rw [if_neg (by rcases h1 with h | h <;> rw [h] <;> omega)]; omega
  unfold lastZ nextS
  rcases verdZ_ex l σ t z with hv | hv | hv
  · rw [hv, e3 1 (.inl rfl)]
    exact take1 t clp z hz w ok hP hM b0 b1 b2 hv
  · rw [hv, e3 2 (.inr rfl)]
    exact take2 t clp z hz w ok hP hM b0 b1 b2 hv
  · rw [hv]
    have f3 : finZ 3 al z = 3 := by unfold finZ; rw [if_neg (by omega)]
    rw [f3]
    rw [show c1 + hit 3 1 = c1 by show c1 + 0 = c1; omega, show c2 + hit 3 2 = c2 by show c2 + 0 = c2; omega, show c3 + hit 3 3 = c3 + 1 by rfl]
    exact take3 t clp z hz w ok hP hM b0 b3 hv
end Go.Proofs.YtaoagbnhomjkpaaGreat

/- Plain words of contracts: what is wrong with one, over the integers. No program is in sight here. -/
namespace Go.Proofs.YtaoagbnhomjkpaaGreat
set_option linter.unusedVariables false
set_option linter.unusedSimpArgs false
/-- from a number on to the longest span. -/
def spanZ (n least : Int) : Bool := decide (least ≤ n ∧ n ≤ 1099511627776)
/-- what is right with a contract of six numbers. -/
def FineP (k p e wh b l : Int) : Prop :=
  (1 ≤ p ∧ p ≤ 1099511627776 ∧ 0 ≤ e ∧ e ≤ 1099511627776) ∧
  (2 ≤ k ∧ k ≤ 4 ∧ p ≤ wh ∧ wh ≤ 1099511627776 ∧ 0 ≤ b ∧ b ≤ 1099511627776 ∧ l = 0 ∨
   k = 5 ∧ wh = 0 ∧ b = 0 ∧ (l = 0 ∨ p ≤ l ∧ l ≤ 1099511627776) ∨
   (k = 1 ∨ k = 6 ∨ k = 7) ∧ wh = 0 ∧ b = 0 ∧ l = 0)
instance (k p e wh b l : Int) : Decidable (FineP k p e wh b l) := by unfold FineP; exact inferInstance
def rightZ (k p e wh b l : Int) : Int := if k < 1 ∨ 7 < k then 12 else if FineP k p e wh b l then 0 else 11
theorem rightZ_of {k p e wh b l r : Int} (h : (k < 1 ∨ 7 < k) ∧ r = 12 ∨ ¬ (k < 1 ∨ 7 < k) ∧ (FineP k p e wh b l ∧ r = 0 ∨ ¬ FineP k p e wh b l ∧ r = 11)) : r = rightZ k p e wh b l := by
  unfold rightZ
  rcases h with ⟨h, rfl⟩ | ⟨h, ⟨h', rfl⟩ | ⟨h', rfl⟩⟩
  · rw [if_pos h]
  · rw [if_neg h, if_pos h']
  · rw [if_neg h, if_neg h']
theorem rightZ_zero {k p e wh b l : Int} : rightZ k p e wh b l = 0 ↔ FineP k p e wh b l := by
  unfold rightZ
  constructor
  · intro h
    split at h
    · omega
    · split at h
      · assumption
      · omega
  · intro h
    have : ¬ (k < 1 ∨ 7 < k) := by unfold FineP at h; omega
    rw [if_neg this, if_pos h]
theorem rightZ_or (k p e wh b l : Int) : rightZ k p e wh b l = 0 ∨ rightZ k p e wh b l = 11 ∨ rightZ k p e wh b l = 12 := by
  unfold rightZ
  split
  · omega
  · split <;> omega
theorem rightZ_kind {k p e wh b l : Int} : rightZ k p e wh b l = 12 ↔ (k < 1 ∨ 7 < k) := by
  unfold rightZ
  split
  · simp; assumption
  · split <;> simp <;> omega
attribute [irreducible] spanZ rightZ
end Go.Proofs.YtaoagbnhomjkpaaGreat
