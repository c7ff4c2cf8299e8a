/- police.New with two rules. -/
import Derived.Test.YtndmmhljphlhjaaPolN
namespace Go.Proofs.Ytndmmhljphlhjaa
set_option linter.unusedVariables false
set_option linter.unusedSimpArgs false
open Go.RowKit
set_option maxRecDepth 100000
set_option maxHeartbeats 4000000
def SameB (g : Nat) (A C : World) : Prop := C.heap[g]? = A.heap[g]?
theorem kept_g {A1 w6 w4 : World} {P g : Nat} {o : Obj} {v : Value} (bA : Below w4.drew.heap.size w4.drew A1) (G6 : (A1.alloc o).grownBy w6 (Value.slice none 0 0).ownBlock) (hg : g < w4.heap.size) (hP : P ≠ g) : SameB g w4 (w6.setCell ⟨P, 1, none⟩ v) := by
  have hs := bA.size
  simp at hs
  have h1 : g < (A1.alloc o).heap.size := by simp; omega
  refine (Below.heap_setCell w6 ⟨P, 1, none⟩ v g (fun e => hP e.symm)).trans ((G6.block g h1 (by simp [Value.ownBlock])).trans ?_)
  exact (((Below.refl A1.heap.size A1).alloc (Nat.le_refl _) o).block g (by omega)).trans (bA.block g (by simpa using hg))
theorem own_ne {q ra n c : Nat} (h : q ≠ ra) : some q ≠ (Value.slice (some ⟨ra, 0, none⟩) n c).ownBlock := fun e => by
  have e' : some q = some ra := e
  injection e' with e'; exact h e'
theorem rs_set {w : World} {P ra i : Nat} {r : Rs} {v : Value} (h : P ≠ ra) (g : RsAt w ra i r) : RsAt (w.setCell ⟨P, 1, none⟩ v) ra i r := ⟨cell_beside h g.c0, cell_beside h g.c1, cell_beside h g.c2, cell_beside h g.c3, cell_beside h g.c4⟩
theorem buck_kept {w7 A1 w6 : World} {ra n cr b P : Nat} {o : Obj} {s e x : Int} {a : Bool} {v : Value} (bA : Below w7.drew.heap.size w7.drew A1) (G6 : (A1.alloc o).grownBy w6 (Value.slice (some ⟨ra, 0, none⟩) n cr).ownBlock) (K : BuckAt w7 b s e x a) (h1 : b ≠ ra) (h2 : b ≠ P) : BuckAt (w6.setCell ⟨P, 1, none⟩ v) b s e x a := by
  have k1 : BuckAt w7.drew b s e x a := K
  have k2 := (k1.below bA).below ((Below.refl A1.heap.size A1).alloc (Nat.le_refl _) o)
  exact (Below.heap_setCell w6 ⟨P, 1, none⟩ v b h2).trans ((G6.block b k2.lt (fun e => h1 (by injection e))).trans k2)
theorem newP_two (k p e wh b l be : Int) (z3 z4 : Bool) (w : World) (h : rightZ k p e wh b l = 0) (hk : 2 ≤ k ∧ k ≤ 4) (hbe : b + e = be) (hz3 : decide (3 ≤ k) = z3) (hz4 : decide (k = 4) = z4) (hal : decide (k = 7 ∧ rightZ k p e wh b l = 0) = false) (p0 : 1 ≤ p) (p1 : p ≤ 1099511627776) (e0 : 0 ≤ e) (e1 : e ≤ 1099511627776) (q0 : 1 ≤ wh) (q1 : wh ≤ 1099511627776) (f0 : 0 ≤ be) (f1 : be ≤ 2199023255552) :
    Calls Try.prog 28 #[.agg #[.int .i64 k, .int .i64 p, .int .i64 e, .int .i64 wh, .int .i64 b, .int .i64 l]] w fun en w' => ∃ P ra cap b1 b2, en = .returned (.tuple #[.pointer (some ⟨P, 0, none⟩), .int .i64 0]) ∧
      PolOk P ra 2 [⟨p, e, false, false, b1⟩, ⟨wh, be, z3, z4, b2⟩] ∧ PolAt w' P ra 2 cap false [⟨p, e, false, false, b1⟩, ⟨wh, be, z3, z4, b2⟩] (fun _ => (0, false)) 0 0 0 0 ∧ w.heap.size ≤ P ∧ w.heap.size ≤ b1 ∧ w.heap.size ≤ b2 ∧ w.heap.size ≤ ra ∧ Below w.heap.size w w' := by
  have HR := Lib.hid h
  have HA := Lib.hid hal
  have HBE := Lib.hid hbe
  have HZ3 := Lib.hid hz3
  have HZ4 := Lib.hid hz4
  clear h hal hbe hz3 hz4
  go_enter Try.func28, Try.ntmps28
  go_wp2_with (first | (go_at_call 16; (refine (cright_any k p e wh b l _).mono ?_); rw [HR.out]; rintro en w1 ⟨rfl, hb_w1⟩; have k1_0 : w1.cell? ⟨w.heap.size, 0, none⟩ = some (.int .i64 k) := cell_keep hb_w1 (cell_top rfl rfl); have k1_1 : w1.cell? ⟨w.heap.size, 1, none⟩ = some (.int .i64 p) := cell_keep hb_w1 (cell_top rfl rfl); have k1_2 : w1.cell? ⟨w.heap.size, 2, none⟩ = some (.int .i64 e) := cell_keep hb_w1 (cell_top rfl rfl); have k1_3 : w1.cell? ⟨w.heap.size, 3, none⟩ = some (.int .i64 wh) := cell_keep hb_w1 (cell_top rfl rfl); have k1_4 : w1.cell? ⟨w.heap.size, 4, none⟩ = some (.int .i64 b) := cell_keep hb_w1 (cell_top rfl rfl); have k1_5 : w1.cell? ⟨w.heap.size, 5, none⟩ = some (.int .i64 l) := cell_keep hb_w1 (cell_top rfl rfl)) | (go_at_call 23; (refine (always_any k p e wh b l _).mono ?_); rw [HA.out]; rintro en w2 ⟨rfl, hb_w2⟩; have k2_0 := cell_keep hb_w2 k1_0; have k2_1 := cell_keep hb_w2 k1_1; have k2_2 := cell_keep hb_w2 k1_2; have k2_3 := cell_keep hb_w2 k1_3; have k2_4 := cell_keep hb_w2 k1_4; have k2_5 := cell_keep hb_w2 k1_5; have hlt2 : w.heap.size < w2.heap.size := World.block_lt_of_cell? _ _ k2_0) | (go_at_call 18; (refine (rules_two k p e wh b l _ HR.out hk).mono ?_); rw [HBE.out, HZ3.out, HZ4.out]; rintro en w3 ⟨g, cg, rfl, hg1, hg2, hg3, r0, r1, r2, r3, r4, r5, r6, r7, hb_w3⟩; have N3 : PolNew w3 w2.heap.size false (.slice none 0 0) := (PolNew.mk (heap_alloc_new _ _)).below hb_w3))
  refine wp_loop_rounds 3 ?_
  rw [rounds_succ]
  go_wp2_with fail
  obtain ⟨w4, hw4⟩ : ∃ w4 : World, w4 = w3.alloc (.cells #[.int .i64 p, .int .i64 e, .bool false, .bool false] 31) := ⟨_, rfl⟩
  have s4 : w3.heap.size < w4.heap.size := by rw [hw4]; simp
  have hb_w4 : Below w3.heap.size w3 w4 := by rw [hw4]; exact (Below.refl _ _).alloc (Nat.le_refl _) _
  have hs23 : w2.heap.size < w3.heap.size := N3.lt
  have S0 : Box4 w3.heap.size p e false false w4 := by rw [hw4]; exact ⟨cell_top rfl rfl, cell_top rfl rfl, cell_top rfl rfl, cell_top rfl rfl⟩
  have N4 : PolNew w4 w2.heap.size false (.slice none 0 0) := N3.below hb_w4
  have r4' := cell_keep hb_w4 r4
  have r5' := cell_keep hb_w4 r5
  have r6' := cell_keep hb_w4 r6
  have r7' := cell_keep hb_w4 r7
  rw [← hw4]
  clear hw4 r0 r1 r2 r3 r4 r5 r6 r7
  have hW : Below w.heap.size w w3 := newB hb_w1 hb_w2 hb_w3
  have bW4 : Below w.heap.size w w4.drew := (hW.trans (hb_w4.mono hW.size)).drew
  have hwP : w.heap.size ≤ w2.heap.size := Nat.le_of_lt hlt2
  have hPg : w2.heap.size ≠ g := by simp at hg1; omega
  have hg4 : g < w4.heap.size := by omega
  refine wp_cut_frame3 (fun ra cr W => NewR w w2.heap.size w4.heap.size false 1 [⟨p, e, false, false, w4.heap.size⟩] ⟨p, e, false, false, w4.heap.size⟩ 0 ra cr W ∧ SameB g w4 W ∧ w4.heap.size < W.heap.size) ?_
  apply Exists.intro
  apply And.intro
  focus
    have S4 : Box4 w3.heap.size p e false false w4.drew := ⟨S0.1, S0.2.1, S0.2.2.1, S0.2.2.2⟩
    have M4 : PolNew w4.drew w2.heap.size false (.slice none 0 0) := ⟨N4.row⟩
    obtain ⟨n0, n1⟩ := M4.cells
    have g0 := fun g : Wits (Box4 w3.heap.size p e false false) => (Wits.is g).1
    have g1 := fun g : Wits (Box4 w3.heap.size p e false false) => (Wits.is g).2.1
    have g2 := fun g : Wits (Box4 w3.heap.size p e false false) => (Wits.is g).2.2.1
    have g3 := fun g : Wits (Box4 w3.heap.size p e false false) => (Wits.is g).2.2.2
    refine wp_region_float (Box4 w3.heap.size p e false false) [10, 11, 12, 13, 14, 15, 16, 17] [0, 1, 2, 3, 5, 6, 7, 8, 9, 10, 11, 12, 13, 14, 15, 16, 17] 4 14 _ _ (by kernel_rfl) (by kernel_rfl) (by kernel_rfl) (by simp only [List.filterMap_cons, List.getElem?_cons_zero, List.getElem?_cons_succ, Option.map_some, List.filterMap_nil]; rfl) rfl rfl rfl rfl S4 ?_
    refine float_quietB_n 9 rfl S4 ?_
    intro _
    (simp only [List.take_succ_cons, List.take_zero, List.drop_succ_cons, List.drop_zero, List.map_cons, List.map_nil])
    (repeat (go_big_quiet_step (fail)))
    (refine wpQuiet_nil ?_)
    clear g0 g1 g2 g3
    have O4 := OwnP.nil w4.drew w.heap.size
    refine float_one rfl rfl rfl ?_ ?_
    focus
      go_wp2; (refine ⟨rfl, S4, ?_⟩)
      (refine lead_one rfl ?_ S4)
      go_wp2_with (go_at_call 25; (with_reducible refine (newB_at p e _ (by omega) (by omega) (by omega) (by omega)).mono ?_); rintro en A1 ⟨rfl, K1, bA1, sA1⟩; have S1 := S4.below bA1; have M1 := M4.below bA1; have O1 := O4.below bA1; have u1 := M1.cells.1; have bA2 := (Below.refl A1.heap.size A1).alloc (Nat.le_refl _) (.cells #[.int .i64 p, .int .i64 e, .bool false, .bool false, .iface 40 (.pointer (some ⟨w4.heap.size, 0, none⟩))] 75); have S2 := S1.below bA2; have M2 := M1.below bA2; have O2 := O1.below bA2; have K2 := K1.below bA2; have u2 := M2.cells.1; have h8 := bA1.size; (simp at h8))
      refine ⟨rfl, S1, ?_⟩
      (refine lead_one rfl ?_ S1)
      go_wp2; (refine ⟨rfl, S1, ?_⟩)
      (refine lead_one rfl ?_ S1)
      go_wp2; (refine ⟨rfl, S1, ?_⟩)
      (refine lead_one rfl ?_ S1)
      go_wp2; (refine ⟨rfl, S2, ?_⟩)
      (refine lead_one rfl ?_ S2)
      go_wp2_with (at_builtin; refine wpList_append_rule rfl _ _ rfl (v := (.slice none 0 0)) (n := 0) (xs := []) (b := A1.heap.size) (r := ⟨p, e, false, false, w4.heap.size⟩) (base := w.heap.size) rfl O2 rfl ?hc (by omega) ?hbase ?_; (case hc => exact ⟨cell_top rfl rfl, cell_top rfl rfl, cell_top rfl rfl, cell_top rfl rfl, cell_top rfl rfl⟩); (case hbase => (simp; omega)); intro v6 w6 O6 G6 hb_w6; obtain ⟨ra, cr, rfl, hra1, hra2, ⟨cur, fr, hcur⟩, hRs⟩ := O6.at (by omega); have S6 := S2.grown G6 (by simp [Value.ownBlock]); have K6 : BuckAt w6 w4.heap.size p e 0 false := (G6.block _ K2.lt (by simp [Value.ownBlock])).trans K2; have M6 : PolNew w6 w2.heap.size false (.slice none 0 0) := PolNew.mk ((G6.block _ M2.lt (by simp [Value.ownBlock])).trans M2.row); have m0 := M6.cells.1; have m1 := M6.cells.2)
      refine ⟨rfl, S6, ?_⟩
      (refine lead_one rfl ?_ S6)
      go_wp2; (refine ⟨rfl, S6, ?_⟩)
      (refine lead_one rfl ?_ S6)
      go_wp2; (refine ⟨rfl, S6, ?_⟩)
      (refine lead_one rfl ?_ S6)
      go_wp2
      refine ⟨rfl, S6.set (by omega), ?_⟩
      refine lead_nil ?_
      obtain ⟨a1, ha1⟩ : ∃ a, a = A1.heap.size := ⟨_, rfl⟩
      rw [← ha1]
      exact ⟨ra, cr, a1, rfl, rfl, newR bW4 bA1 O6 hb_w6 K6 M6 hcur (hRs 0 _ rfl) hwP, kept_g bA1 G6 hg4 hPg, (by have h9 := G6.size; (simp at h9); simp; omega)⟩
    go_wp2_with (go_at_call 25; (with_reducible refine (newB_at p e _ (by omega) (by omega) (by omega) (by omega)).mono ?_); rintro en A1 ⟨rfl, K1, bA1, sA1⟩; have S1 := S4.below bA1; have M1 := M4.below bA1; have O1 := O4.below bA1; have u1 := M1.cells.1; have bA2 := (Below.refl A1.heap.size A1).alloc (Nat.le_refl _) (.cells #[.int .i64 p, .int .i64 e, .bool false, .bool false, .iface 40 (.pointer (some ⟨w4.heap.size, 0, none⟩))] 75); have S2 := S1.below bA2; have M2 := M1.below bA2; have O2 := O1.below bA2; have K2 := K1.below bA2; have u2 := M2.cells.1; have h8 := bA1.size; (simp at h8))
    refine ⟨rfl, S1, ?_⟩
    refine float_one rfl rfl rfl ?_ ?_
    focus
      go_wp2; (refine ⟨rfl, S1, ?_⟩)
      (refine lead_one rfl ?_ S1)
      go_wp2; (refine ⟨rfl, S1, ?_⟩)
      (refine lead_one rfl ?_ S1)
      go_wp2; (refine ⟨rfl, S1, ?_⟩)
      (refine lead_one rfl ?_ S1)
      go_wp2; (refine ⟨rfl, S2, ?_⟩)
      (refine lead_one rfl ?_ S2)
      go_wp2_with (at_builtin; refine wpList_append_rule rfl _ _ rfl (v := (.slice none 0 0)) (n := 0) (xs := []) (b := A1.heap.size) (r := ⟨p, e, false, false, w4.heap.size⟩) (base := w.heap.size) rfl O2 rfl ?hc (by omega) ?hbase ?_; (case hc => exact ⟨cell_top rfl rfl, cell_top rfl rfl, cell_top rfl rfl, cell_top rfl rfl, cell_top rfl rfl⟩); (case hbase => (simp; omega)); intro v6 w6 O6 G6 hb_w6; obtain ⟨ra, cr, rfl, hra1, hra2, ⟨cur, fr, hcur⟩, hRs⟩ := O6.at (by omega); have S6 := S2.grown G6 (by simp [Value.ownBlock]); have K6 : BuckAt w6 w4.heap.size p e 0 false := (G6.block _ K2.lt (by simp [Value.ownBlock])).trans K2; have M6 : PolNew w6 w2.heap.size false (.slice none 0 0) := PolNew.mk ((G6.block _ M2.lt (by simp [Value.ownBlock])).trans M2.row); have m0 := M6.cells.1; have m1 := M6.cells.2)
      refine ⟨rfl, S6, ?_⟩
      (refine lead_one rfl ?_ S6)
      go_wp2; (refine ⟨rfl, S6, ?_⟩)
      (refine lead_one rfl ?_ S6)
      go_wp2; (refine ⟨rfl, S6, ?_⟩)
      (refine lead_one rfl ?_ S6)
      go_wp2
      refine ⟨rfl, S6.set (by omega), ?_⟩
      refine lead_nil ?_
      obtain ⟨a1, ha1⟩ : ∃ a, a = A1.heap.size := ⟨_, rfl⟩
      rw [← ha1]
      exact ⟨ra, cr, a1, rfl, rfl, newR bW4 bA1 O6 hb_w6 K6 M6 hcur (hRs 0 _ rfl) hwP, kept_g bA1 G6 hg4 hPg, (by have h9 := G6.size; (simp at h9); simp; omega)⟩
    go_wp2; (refine ⟨rfl, S1, ?_⟩)
    refine float_one rfl rfl rfl ?_ ?_
    focus
      go_wp2; (refine ⟨rfl, S1, ?_⟩)
      (refine lead_one rfl ?_ S1)
      go_wp2; (refine ⟨rfl, S1, ?_⟩)
      (refine lead_one rfl ?_ S1)
      go_wp2; (refine ⟨rfl, S2, ?_⟩)
      (refine lead_one rfl ?_ S2)
      go_wp2_with (at_builtin; refine wpList_append_rule rfl _ _ rfl (v := (.slice none 0 0)) (n := 0) (xs := []) (b := A1.heap.size) (r := ⟨p, e, false, false, w4.heap.size⟩) (base := w.heap.size) rfl O2 rfl ?hc (by omega) ?hbase ?_; (case hc => exact ⟨cell_top rfl rfl, cell_top rfl rfl, cell_top rfl rfl, cell_top rfl rfl, cell_top rfl rfl⟩); (case hbase => (simp; omega)); intro v6 w6 O6 G6 hb_w6; obtain ⟨ra, cr, rfl, hra1, hra2, ⟨cur, fr, hcur⟩, hRs⟩ := O6.at (by omega); have S6 := S2.grown G6 (by simp [Value.ownBlock]); have K6 : BuckAt w6 w4.heap.size p e 0 false := (G6.block _ K2.lt (by simp [Value.ownBlock])).trans K2; have M6 : PolNew w6 w2.heap.size false (.slice none 0 0) := PolNew.mk ((G6.block _ M2.lt (by simp [Value.ownBlock])).trans M2.row); have m0 := M6.cells.1; have m1 := M6.cells.2)
      refine ⟨rfl, S6, ?_⟩
      (refine lead_one rfl ?_ S6)
      go_wp2; (refine ⟨rfl, S6, ?_⟩)
      (refine lead_one rfl ?_ S6)
      go_wp2; (refine ⟨rfl, S6, ?_⟩)
      (refine lead_one rfl ?_ S6)
      go_wp2
      refine ⟨rfl, S6.set (by omega), ?_⟩
      refine lead_nil ?_
      obtain ⟨a1, ha1⟩ : ∃ a, a = A1.heap.size := ⟨_, rfl⟩
      rw [← ha1]
      exact ⟨ra, cr, a1, rfl, rfl, newR bW4 bA1 O6 hb_w6 K6 M6 hcur (hRs 0 _ rfl) hwP, kept_g bA1 G6 hg4 hPg, (by have h9 := G6.size; (simp at h9); simp; omega)⟩
    go_wp2; (refine ⟨rfl, S1, ?_⟩)
    refine float_one rfl rfl rfl ?_ ?_
    focus
      go_wp2; (refine ⟨rfl, S1, ?_⟩)
      (refine lead_one rfl ?_ S1)
      go_wp2; (refine ⟨rfl, S2, ?_⟩)
      (refine lead_one rfl ?_ S2)
      go_wp2_with (at_builtin; refine wpList_append_rule rfl _ _ rfl (v := (.slice none 0 0)) (n := 0) (xs := []) (b := A1.heap.size) (r := ⟨p, e, false, false, w4.heap.size⟩) (base := w.heap.size) rfl O2 rfl ?hc (by omega) ?hbase ?_; (case hc => exact ⟨cell_top rfl rfl, cell_top rfl rfl, cell_top rfl rfl, cell_top rfl rfl, cell_top rfl rfl⟩); (case hbase => (simp; omega)); intro v6 w6 O6 G6 hb_w6; obtain ⟨ra, cr, rfl, hra1, hra2, ⟨cur, fr, hcur⟩, hRs⟩ := O6.at (by omega); have S6 := S2.grown G6 (by simp [Value.ownBlock]); have K6 : BuckAt w6 w4.heap.size p e 0 false := (G6.block _ K2.lt (by simp [Value.ownBlock])).trans K2; have M6 : PolNew w6 w2.heap.size false (.slice none 0 0) := PolNew.mk ((G6.block _ M2.lt (by simp [Value.ownBlock])).trans M2.row); have m0 := M6.cells.1; have m1 := M6.cells.2)
      refine ⟨rfl, S6, ?_⟩
      (refine lead_one rfl ?_ S6)
      go_wp2; (refine ⟨rfl, S6, ?_⟩)
      (refine lead_one rfl ?_ S6)
      go_wp2; (refine ⟨rfl, S6, ?_⟩)
      (refine lead_one rfl ?_ S6)
      go_wp2
      refine ⟨rfl, S6.set (by omega), ?_⟩
      refine lead_nil ?_
      obtain ⟨a1, ha1⟩ : ∃ a, a = A1.heap.size := ⟨_, rfl⟩
      rw [← ha1]
      exact ⟨ra, cr, a1, rfl, rfl, newR bW4 bA1 O6 hb_w6 K6 M6 hcur (hRs 0 _ rfl) hwP, kept_g bA1 G6 hg4 hPg, (by have h9 := G6.size; (simp at h9); simp; omega)⟩
    go_wp2; (refine ⟨rfl, S2, ?_⟩)
    refine float_stop rfl rfl ?_
    focus
      go_wp2; (refine ⟨rfl, S2, ?_⟩)
      (refine lead_one rfl ?_ S2)
      go_wp2_with (at_builtin; refine wpList_append_rule rfl _ _ rfl (v := (.slice none 0 0)) (n := 0) (xs := []) (b := A1.heap.size) (r := ⟨p, e, false, false, w4.heap.size⟩) (base := w.heap.size) rfl O2 rfl ?hc (by omega) ?hbase ?_; (case hc => exact ⟨cell_top rfl rfl, cell_top rfl rfl, cell_top rfl rfl, cell_top rfl rfl, cell_top rfl rfl⟩); (case hbase => (simp; omega)); intro v6 w6 O6 G6 hb_w6; obtain ⟨ra, cr, rfl, hra1, hra2, ⟨cur, fr, hcur⟩, hRs⟩ := O6.at (by omega); have S6 := S2.grown G6 (by simp [Value.ownBlock]); have K6 : BuckAt w6 w4.heap.size p e 0 false := (G6.block _ K2.lt (by simp [Value.ownBlock])).trans K2; have M6 : PolNew w6 w2.heap.size false (.slice none 0 0) := PolNew.mk ((G6.block _ M2.lt (by simp [Value.ownBlock])).trans M2.row); have m0 := M6.cells.1; have m1 := M6.cells.2)
      refine ⟨rfl, S6, ?_⟩
      (refine lead_one rfl ?_ S6)
      go_wp2; (refine ⟨rfl, S6, ?_⟩)
      (refine lead_one rfl ?_ S6)
      go_wp2; (refine ⟨rfl, S6, ?_⟩)
      (refine lead_one rfl ?_ S6)
      go_wp2
      refine ⟨rfl, S6.set (by omega), ?_⟩
      refine lead_nil ?_
      obtain ⟨a1, ha1⟩ : ∃ a, a = A1.heap.size := ⟨_, rfl⟩
      rw [← ha1]
      exact ⟨ra, cr, a1, rfl, rfl, newR bW4 bA1 O6 hb_w6 K6 M6 hcur (hRs 0 _ rfl) hwP, kept_g bA1 G6 hg4 hPg, (by have h9 := G6.size; (simp at h9); simp; omega)⟩
  rintro ra cr a1 W ⟨⟨HN, HO, HK, ⟨cur, fr, hcur⟩, HRs, HB⟩, hkg, hsW⟩
  have hkg : W.heap[g]? = w4.heap[g]? := hkg
  have q4 := (World.cell?_of_block (a := ⟨g, 4, none⟩) hkg).trans r4'
  have q5 := (World.cell?_of_block (a := ⟨g, 5, none⟩) hkg).trans r5'
  have q6 := (World.cell?_of_block (a := ⟨g, 6, none⟩) hkg).trans r6'
  have q7 := (World.cell?_of_block (a := ⟨g, 7, none⟩) hkg).trans r7'
  clear hkg
  have hgW : g < W.heap.size := World.block_lt_of_cell? _ _ q4
  go_wp2_with fail
  rw [rounds_succ]
  go_wp2_with fail
  obtain ⟨w7, hw7⟩ : ∃ w7 : World, w7 = W.alloc (.cells #[.int .i64 wh, .int .i64 be, .bool z3, .bool z4] 31) := ⟨_, rfl⟩
  have s7 : W.heap.size < w7.heap.size := by rw [hw7]; simp
  have hb_w7 : Below W.heap.size W w7 := by rw [hw7]; exact (Below.refl _ _).alloc (Nat.le_refl _) _
  have S0 : Box4 W.heap.size wh be z3 z4 w7 := by rw [hw7]; exact ⟨cell_top rfl rfl, cell_top rfl rfl, cell_top rfl rfl, cell_top rfl rfl⟩
  have N4 : PolNew w7 w2.heap.size false (.slice (some ⟨ra, 0, none⟩) 1 cr) := HN.below hb_w7
  have K7 : BuckAt w7 w4.heap.size p e 0 false := HK.below hb_w7
  rw [← hw7]
  clear hw7 q4 q5 q6 q7 r4' r5' r6' r7'
  have bW7 : Below w.heap.size w w7.drew := (HB.trans (hb_w7.mono HB.size)).drew
  have hraW : ra < W.heap.size := (Array.getElem?_eq_some_iff.1 hcur).1
  have hPra := apart_pr HN hcur
  have hbra := apart_br HK hcur
  have hbP := apart_pb HN HK
  refine wp_cut_frame3 (fun ra' cr W => NewR w w2.heap.size w7.heap.size false 2 [⟨p, e, false, false, w4.heap.size⟩, ⟨wh, be, z3, z4, w7.heap.size⟩] ⟨wh, be, z3, z4, w7.heap.size⟩ 1 ra' cr W ∧ RsAt W ra' 0 ⟨p, e, false, false, w4.heap.size⟩ ∧ BuckAt W w4.heap.size p e 0 false) ?_
  apply Exists.intro
  apply And.intro
  focus
    have S4 : Box4 W.heap.size wh be z3 z4 w7.drew := ⟨S0.1, S0.2.1, S0.2.2.1, S0.2.2.2⟩
    have M4 : PolNew w7.drew w2.heap.size false (.slice (some ⟨ra, 0, none⟩) 1 cr) := ⟨N4.row⟩
    obtain ⟨n0, n1⟩ := M4.cells
    have g0 := fun g : Wits (Box4 W.heap.size wh be z3 z4) => (Wits.is g).1
    have g1 := fun g : Wits (Box4 W.heap.size wh be z3 z4) => (Wits.is g).2.1
    have g2 := fun g : Wits (Box4 W.heap.size wh be z3 z4) => (Wits.is g).2.2.1
    have g3 := fun g : Wits (Box4 W.heap.size wh be z3 z4) => (Wits.is g).2.2.2
    refine wp_region_float (Box4 W.heap.size wh be z3 z4) [10, 11, 12, 13, 14, 15, 16, 17] [0, 1, 2, 3, 5, 6, 7, 8, 9, 10, 11, 12, 13, 14, 15, 16, 17] 4 14 _ _ (by kernel_rfl) (by kernel_rfl) (by kernel_rfl) (by simp only [List.filterMap_cons, List.getElem?_cons_zero, List.getElem?_cons_succ, Option.map_some, List.filterMap_nil]; rfl) rfl rfl rfl rfl S4 ?_
    refine float_quietB_n 9 rfl S4 ?_
    intro _
    (simp only [List.take_succ_cons, List.take_zero, List.drop_succ_cons, List.drop_zero, List.map_cons, List.map_nil])
    (repeat (go_big_quiet_step (fail)))
    (refine wpQuiet_nil ?_)
    clear g0 g1 g2 g3
    have O4 := (HO.below hb_w7).below (Below.drew (Below.refl w7.heap.size w7))
    refine float_one rfl rfl rfl ?_ ?_
    focus
      go_wp2; (refine ⟨rfl, S4, ?_⟩)
      (refine lead_one rfl ?_ S4)
      go_wp2_with (go_at_call 25; (with_reducible refine (newB_at wh be _ (by omega) (by omega) (by omega) (by omega)).mono ?_); rintro en A1 ⟨rfl, K1, bA1, sA1⟩; have S1 := S4.below bA1; have M1 := M4.below bA1; have O1 := O4.below bA1; have u1 := M1.cells.1; have bA2 := (Below.refl A1.heap.size A1).alloc (Nat.le_refl _) (.cells #[.int .i64 wh, .int .i64 be, .bool z3, .bool z4, .iface 40 (.pointer (some ⟨w7.heap.size, 0, none⟩))] 75); have S2 := S1.below bA2; have M2 := M1.below bA2; have O2 := O1.below bA2; have K2 := K1.below bA2; have u2 := M2.cells.1; have h8 := bA1.size; (simp at h8))
      refine ⟨rfl, S1, ?_⟩
      (refine lead_one rfl ?_ S1)
      go_wp2; (refine ⟨rfl, S1, ?_⟩)
      (refine lead_one rfl ?_ S1)
      go_wp2; (refine ⟨rfl, S1, ?_⟩)
      (refine lead_one rfl ?_ S1)
      go_wp2; (refine ⟨rfl, S2, ?_⟩)
      (refine lead_one rfl ?_ S2)
      go_wp2_with (at_builtin; refine wpList_append_rule rfl _ _ rfl (v := (.slice (some ⟨ra, 0, none⟩) 1 cr)) (n := 1) (xs := [⟨p, e, false, false, w4.heap.size⟩]) (b := A1.heap.size) (r := ⟨wh, be, z3, z4, w7.heap.size⟩) (base := w.heap.size) rfl O2 rfl ?hc (by omega) ?hbase ?_; (case hc => exact ⟨cell_top rfl rfl, cell_top rfl rfl, cell_top rfl rfl, cell_top rfl rfl, cell_top rfl rfl⟩); (case hbase => (simp; omega)); intro v6 w6 O6 G6 hb_w6; obtain ⟨ra', cr', rfl, hra1, hra2, ⟨cur, fr, hcur⟩, hRs⟩ := O6.at (by omega); have S6 := S2.grown G6 (own_ne (show W.heap.size ≠ ra by omega)); have K6 : BuckAt w6 w7.heap.size wh be 0 false := (G6.block _ K2.lt (own_ne (show w7.heap.size ≠ ra by omega))).trans K2; have M6 : PolNew w6 w2.heap.size false (.slice (some ⟨ra, 0, none⟩) 1 cr) := PolNew.mk ((G6.block _ M2.lt (own_ne hPra)).trans M2.row); have m0 := M6.cells.1; have m1 := M6.cells.2)
      refine ⟨rfl, S6, ?_⟩
      (refine lead_one rfl ?_ S6)
      go_wp2; (refine ⟨rfl, S6, ?_⟩)
      (refine lead_one rfl ?_ S6)
      go_wp2; (refine ⟨rfl, S6, ?_⟩)
      (refine lead_one rfl ?_ S6)
      go_wp2
      refine ⟨rfl, S6.set (by omega), ?_⟩
      refine lead_nil ?_
      obtain ⟨a1, ha1⟩ : ∃ a, a = A1.heap.size := ⟨_, rfl⟩
      rw [← ha1]
      exact ⟨ra', cr', a1, rfl, rfl, newR bW7 bA1 O6 hb_w6 K6 M6 hcur (hRs 1 _ rfl) hwP, rs_set (apart_pr M6 hcur) (hRs 0 _ rfl), buck_kept bA1 G6 K7 hbra hbP⟩
    go_wp2_with (go_at_call 25; (with_reducible refine (newB_at wh be _ (by omega) (by omega) (by omega) (by omega)).mono ?_); rintro en A1 ⟨rfl, K1, bA1, sA1⟩; have S1 := S4.below bA1; have M1 := M4.below bA1; have O1 := O4.below bA1; have u1 := M1.cells.1; have bA2 := (Below.refl A1.heap.size A1).alloc (Nat.le_refl _) (.cells #[.int .i64 wh, .int .i64 be, .bool z3, .bool z4, .iface 40 (.pointer (some ⟨w7.heap.size, 0, none⟩))] 75); have S2 := S1.below bA2; have M2 := M1.below bA2; have O2 := O1.below bA2; have K2 := K1.below bA2; have u2 := M2.cells.1; have h8 := bA1.size; (simp at h8))
    refine ⟨rfl, S1, ?_⟩
    refine float_one rfl rfl rfl ?_ ?_
    focus
      go_wp2; (refine ⟨rfl, S1, ?_⟩)
      (refine lead_one rfl ?_ S1)
      go_wp2; (refine ⟨rfl, S1, ?_⟩)
      (refine lead_one rfl ?_ S1)
      go_wp2; (refine ⟨rfl, S1, ?_⟩)
      (refine lead_one rfl ?_ S1)
      go_wp2; (refine ⟨rfl, S2, ?_⟩)
      (refine lead_one rfl ?_ S2)
      go_wp2_with (at_builtin; refine wpList_append_rule rfl _ _ rfl (v := (.slice (some ⟨ra, 0, none⟩) 1 cr)) (n := 1) (xs := [⟨p, e, false, false, w4.heap.size⟩]) (b := A1.heap.size) (r := ⟨wh, be, z3, z4, w7.heap.size⟩) (base := w.heap.size) rfl O2 rfl ?hc (by omega) ?hbase ?_; (case hc => exact ⟨cell_top rfl rfl, cell_top rfl rfl, cell_top rfl rfl, cell_top rfl rfl, cell_top rfl rfl⟩); (case hbase => (simp; omega)); intro v6 w6 O6 G6 hb_w6; obtain ⟨ra', cr', rfl, hra1, hra2, ⟨cur, fr, hcur⟩, hRs⟩ := O6.at (by omega); have S6 := S2.grown G6 (own_ne (show W.heap.size ≠ ra by omega)); have K6 : BuckAt w6 w7.heap.size wh be 0 false := (G6.block _ K2.lt (own_ne (show w7.heap.size ≠ ra by omega))).trans K2; have M6 : PolNew w6 w2.heap.size false (.slice (some ⟨ra, 0, none⟩) 1 cr) := PolNew.mk ((G6.block _ M2.lt (own_ne hPra)).trans M2.row); have m0 := M6.cells.1; have m1 := M6.cells.2)
      refine ⟨rfl, S6, ?_⟩
      (refine lead_one rfl ?_ S6)
      go_wp2; (refine ⟨rfl, S6, ?_⟩)
      (refine lead_one rfl ?_ S6)
      go_wp2; (refine ⟨rfl, S6, ?_⟩)
      (refine lead_one rfl ?_ S6)
      go_wp2
      refine ⟨rfl, S6.set (by omega), ?_⟩
      refine lead_nil ?_
      obtain ⟨a1, ha1⟩ : ∃ a, a = A1.heap.size := ⟨_, rfl⟩
      rw [← ha1]
      exact ⟨ra', cr', a1, rfl, rfl, newR bW7 bA1 O6 hb_w6 K6 M6 hcur (hRs 1 _ rfl) hwP, rs_set (apart_pr M6 hcur) (hRs 0 _ rfl), buck_kept bA1 G6 K7 hbra hbP⟩
    go_wp2; (refine ⟨rfl, S1, ?_⟩)
    refine float_one rfl rfl rfl ?_ ?_
    focus
      go_wp2; (refine ⟨rfl, S1, ?_⟩)
      (refine lead_one rfl ?_ S1)
      go_wp2; (refine ⟨rfl, S1, ?_⟩)
      (refine lead_one rfl ?_ S1)
      go_wp2; (refine ⟨rfl, S2, ?_⟩)
      (refine lead_one rfl ?_ S2)
      go_wp2_with (at_builtin; refine wpList_append_rule rfl _ _ rfl (v := (.slice (some ⟨ra, 0, none⟩) 1 cr)) (n := 1) (xs := [⟨p, e, false, false, w4.heap.size⟩]) (b := A1.heap.size) (r := ⟨wh, be, z3, z4, w7.heap.size⟩) (base := w.heap.size) rfl O2 rfl ?hc (by omega) ?hbase ?_; (case hc => exact ⟨cell_top rfl rfl, cell_top rfl rfl, cell_top rfl rfl, cell_top rfl rfl, cell_top rfl rfl⟩); (case hbase => (simp; omega)); intro v6 w6 O6 G6 hb_w6; obtain ⟨ra', cr', rfl, hra1, hra2, ⟨cur, fr, hcur⟩, hRs⟩ := O6.at (by omega); have S6 := S2.grown G6 (own_ne (show W.heap.size ≠ ra by omega)); have K6 : BuckAt w6 w7.heap.size wh be 0 false := (G6.block _ K2.lt (own_ne (show w7.heap.size ≠ ra by omega))).trans K2; have M6 : PolNew w6 w2.heap.size false (.slice (some ⟨ra, 0, none⟩) 1 cr) := PolNew.mk ((G6.block _ M2.lt (own_ne hPra)).trans M2.row); have m0 := M6.cells.1; have m1 := M6.cells.2)
      refine ⟨rfl, S6, ?_⟩
      (refine lead_one rfl ?_ S6)
      go_wp2; (refine ⟨rfl, S6, ?_⟩)
      (refine lead_one rfl ?_ S6)
      go_wp2; (refine ⟨rfl, S6, ?_⟩)
      (refine lead_one rfl ?_ S6)
      go_wp2
      refine ⟨rfl, S6.set (by omega), ?_⟩
      refine lead_nil ?_
      obtain ⟨a1, ha1⟩ : ∃ a, a = A1.heap.size := ⟨_, rfl⟩
      rw [← ha1]
      exact ⟨ra', cr', a1, rfl, rfl, newR bW7 bA1 O6 hb_w6 K6 M6 hcur (hRs 1 _ rfl) hwP, rs_set (apart_pr M6 hcur) (hRs 0 _ rfl), buck_kept bA1 G6 K7 hbra hbP⟩
    go_wp2; (refine ⟨rfl, S1, ?_⟩)
    refine float_one rfl rfl rfl ?_ ?_
    focus
      go_wp2; (refine ⟨rfl, S1, ?_⟩)
      (refine lead_one rfl ?_ S1)
      go_wp2; (refine ⟨rfl, S2, ?_⟩)
      (refine lead_one rfl ?_ S2)
      go_wp2_with (at_builtin; refine wpList_append_rule rfl _ _ rfl (v := (.slice (some ⟨ra, 0, none⟩) 1 cr)) (n := 1) (xs := [⟨p, e, false, false, w4.heap.size⟩]) (b := A1.heap.size) (r := ⟨wh, be, z3, z4, w7.heap.size⟩) (base := w.heap.size) rfl O2 rfl ?hc (by omega) ?hbase ?_; (case hc => exact ⟨cell_top rfl rfl, cell_top rfl rfl, cell_top rfl rfl, cell_top rfl rfl, cell_top rfl rfl⟩); (case hbase => (simp; omega)); intro v6 w6 O6 G6 hb_w6; obtain ⟨ra', cr', rfl, hra1, hra2, ⟨cur, fr, hcur⟩, hRs⟩ := O6.at (by omega); have S6 := S2.grown G6 (own_ne (show W.heap.size ≠ ra by omega)); have K6 : BuckAt w6 w7.heap.size wh be 0 false := (G6.block _ K2.lt (own_ne (show w7.heap.size ≠ ra by omega))).trans K2; have M6 : PolNew w6 w2.heap.size false (.slice (some ⟨ra, 0, none⟩) 1 cr) := PolNew.mk ((G6.block _ M2.lt (own_ne hPra)).trans M2.row); have m0 := M6.cells.1; have m1 := M6.cells.2)
      refine ⟨rfl, S6, ?_⟩
      (refine lead_one rfl ?_ S6)
      go_wp2; (refine ⟨rfl, S6, ?_⟩)
      (refine lead_one rfl ?_ S6)
      go_wp2; (refine ⟨rfl, S6, ?_⟩)
      (refine lead_one rfl ?_ S6)
      go_wp2
      refine ⟨rfl, S6.set (by omega), ?_⟩
      refine lead_nil ?_
      obtain ⟨a1, ha1⟩ : ∃ a, a = A1.heap.size := ⟨_, rfl⟩
      rw [← ha1]
      exact ⟨ra', cr', a1, rfl, rfl, newR bW7 bA1 O6 hb_w6 K6 M6 hcur (hRs 1 _ rfl) hwP, rs_set (apart_pr M6 hcur) (hRs 0 _ rfl), buck_kept bA1 G6 K7 hbra hbP⟩
    go_wp2; (refine ⟨rfl, S2, ?_⟩)
    refine float_stop rfl rfl ?_
    focus
      go_wp2; (refine ⟨rfl, S2, ?_⟩)
      (refine lead_one rfl ?_ S2)
      go_wp2_with (at_builtin; refine wpList_append_rule rfl _ _ rfl (v := (.slice (some ⟨ra, 0, none⟩) 1 cr)) (n := 1) (xs := [⟨p, e, false, false, w4.heap.size⟩]) (b := A1.heap.size) (r := ⟨wh, be, z3, z4, w7.heap.size⟩) (base := w.heap.size) rfl O2 rfl ?hc (by omega) ?hbase ?_; (case hc => exact ⟨cell_top rfl rfl, cell_top rfl rfl, cell_top rfl rfl, cell_top rfl rfl, cell_top rfl rfl⟩); (case hbase => (simp; omega)); intro v6 w6 O6 G6 hb_w6; obtain ⟨ra', cr', rfl, hra1, hra2, ⟨cur, fr, hcur⟩, hRs⟩ := O6.at (by omega); have S6 := S2.grown G6 (own_ne (show W.heap.size ≠ ra by omega)); have K6 : BuckAt w6 w7.heap.size wh be 0 false := (G6.block _ K2.lt (own_ne (show w7.heap.size ≠ ra by omega))).trans K2; have M6 : PolNew w6 w2.heap.size false (.slice (some ⟨ra, 0, none⟩) 1 cr) := PolNew.mk ((G6.block _ M2.lt (own_ne hPra)).trans M2.row); have m0 := M6.cells.1; have m1 := M6.cells.2)
      refine ⟨rfl, S6, ?_⟩
      (refine lead_one rfl ?_ S6)
      go_wp2; (refine ⟨rfl, S6, ?_⟩)
      (refine lead_one rfl ?_ S6)
      go_wp2; (refine ⟨rfl, S6, ?_⟩)
      (refine lead_one rfl ?_ S6)
      go_wp2
      refine ⟨rfl, S6.set (by omega), ?_⟩
      refine lead_nil ?_
      obtain ⟨a1, ha1⟩ : ∃ a, a = A1.heap.size := ⟨_, rfl⟩
      rw [← ha1]
      exact ⟨ra', cr', a1, rfl, rfl, newR bW7 bA1 O6 hb_w6 K6 M6 hcur (hRs 1 _ rfl) hwP, rs_set (apart_pr M6 hcur) (hRs 0 _ rfl), buck_kept bA1 G6 K7 hbra hbP⟩
  rintro ra' cr' a2 Z ⟨⟨HN2, HO2, HK2, ⟨cur2, fr2, hcur2⟩, HRs2, HB2⟩, HRs1, HK1⟩
  go_wp2_with fail
  rw [rounds_succ]
  go_wp2_with fail
  go_ret2
  have hbb : w4.heap.size ≠ w7.heap.size := by omega
  refine ⟨_, ra', cr', w4.heap.size, w7.heap.size, rfl, ⟨rfl, by omega, apart_pr HN2 hcur2, ?_, ?_, ?_, ?_⟩, ⟨HN2.row, ?_, (Array.getElem?_eq_some_iff.1 hcur2).1, ?_⟩, hwP, by have := hW.size; omega, by have := hW.size; omega, ra_own HO2 (by omega), HB2⟩
  · intro r hr; simp at hr
    rcases hr with rfl | rfl
    · exact ⟨apart_pb HN2 HK1, apart_br HK1 hcur2⟩
    · exact ⟨apart_pb HN2 HK2, apart_br HK2 hcur2⟩
  · intro r hr r' hr' hb
    simp at hr hr'
    rcases hr with rfl | rfl <;> rcases hr' with rfl | rfl
    · rfl
    · exact absurd hb hbb
    · exact absurd hb.symm hbb
    · rfl
  · simp; intro _ _ _ _; exact hbb
  · intro r hr; simp at hr
    rcases hr with rfl | rfl
    · exact ⟨p0, p1, e0, by show e ≤ _; omega⟩
    · exact ⟨q0, q1, f0, f1⟩
  · intro i r hr
    match i, hr with
    | 0, hr => simp at hr; subst hr; exact HRs1
    | 1, hr => simp at hr; subst hr; exact HRs2
    | i + 2, hr => simp at hr
  · intro r hr; simp at hr
    rcases hr with rfl | rfl
    · exact HK1
    · exact HK2
end Go.Proofs.Ytndmmhljphlhjaa
