import Derived.Test.YtaoagbnhomjkpaaGreatZTopRates10
/- police.New with two rules. -/
namespace Go.Proofs.YtaoagbnhomjkpaaGreat
set_option linter.unusedVariables false
set_option linter.unusedSimpArgs false
open Go.RowKit
set_option maxRecDepth 100000
set_option maxHeartbeats 4000000
def SameB (g : Nat) (A C : World) : Prop := C.heap[g]? = A.heap[g]?
theorem kept_g {A1 w6 w4 : World} {P g : Nat} {o : Obj} {v : Value} (bA : Below w4.drew.heap.size w4.drew A1) (G6 : (A1.alloc o).grownBy w6 (Value.slice none 0 0).ownBlock) (hg : g < w4.heap.size) (hP : P ≠ g) : SameB g w4 (w6.setCell ⟨P, 1, none⟩ v) := by
  have hs := bA.size
  simp at hs
  have h1 : g < (A1.alloc o).heap.size := by simp; omega
  refine (Below.heap_setCell w6 ⟨P, 1, none⟩ v g (fun e => hP e.symm)).trans ((G6.block g h1 (by simp [Value.ownBlock])).trans ?_)
  exact (((Below.refl A1.heap.size A1).alloc (Nat.le_refl _) o).block g (by omega)).trans (bA.block g (by simpa using hg))
theorem own_ne {q ra n c : Nat} (h : q ≠ ra) : some q ≠ (Value.slice (some ⟨ra, 0, none⟩) n c).ownBlock := fun e => by
  have e' : some q = some ra := e
  injection e' with e'; exact h e'
theorem rs_set {w : World} {P ra i : Nat} {r : Rs} {v : Value} (h : P ≠ ra) (g : RsAt w ra i r) : RsAt (w.setCell ⟨P, 1, none⟩ v) ra i r := ⟨cell_beside h g.c0, cell_beside h g.c1, cell_beside h g.c2, cell_beside h g.c3, cell_beside h g.c4⟩
theorem buck_kept {w7 A1 w6 : World} {ra n cr b P : Nat} {o : Obj} {s e x : Int} {a : Bool} {v : Value} (bA : Below w7.drew.heap.size w7.drew A1) (G6 : (A1.alloc o).grownBy w6 (Value.slice (some ⟨ra, 0, none⟩) n cr).ownBlock) (K : BuckAt w7 b s e x a) (h1 : b ≠ ra) (h2 : b ≠ P) : BuckAt (w6.setCell ⟨P, 1, none⟩ v) b s e x a := by
  have k1 : BuckAt w7.drew b s e x a := K
  have k2 := (k1.below bA).below ((Below.refl A1.heap.size A1).alloc (Nat.le_refl _) o)
  exact (Below.heap_setCell w6 ⟨P, 1, none⟩ v b h2).trans ((G6.block b k2.lt (fun e => h1 (by injection e))).trans k2)
theorem newP_two (k p e wh b l be : Int) (z3 z4 : Bool) (w : World) (h : rightZ k p e wh b l = 0) (hk : 2 ≤ k ∧ k ≤ 4) (hbe : b + e = be) (hz3 : decide (3 ≤ k) = z3) (hz4 : decide (k = 4) = z4) (hal : decide (k = 7 ∧ rightZ k p e wh b l = 0) = false) (p0 : 1 ≤ p) (p1 : p ≤ 1099511627776) (e0 : 0 ≤ e) (e1 : e ≤ 1099511627776) (q0 : 1 ≤ wh) (q1 : wh ≤ 1099511627776) (f0 : 0 ≤ be) (f1 : be ≤ 2199023255552) :
    Calls Tryz.prog 13 #[.agg #[.int .i64 k, .int .i64 p, .int .i64 e, .int .i64 wh, .int .i64 b, .int .i64 l]] w fun en w' => ∃ P ra cap b1 b2, en = .returned (.tuple #[.pointer (some ⟨P, 0, none⟩), .int .i64 0]) ∧
      PolOk P ra 2 [⟨p, e, false, false, b1⟩, ⟨wh, be, z3, z4, b2⟩] ∧ PolAt w' P ra 2 cap false [⟨p, e, false, false, b1⟩, ⟨wh, be, z3, z4, b2⟩] (fun _ => (0, false)) 0 0 0 0 ∧ w.heap.size ≤ P ∧ w.heap.size ≤ b1 ∧ w.heap.size ≤ b2 ∧ w.heap.size ≤ ra ∧ Below w.heap.size w w' := by
  have HR := Lib.hid h
  have HA := Lib.hid hal
  have HBE := Lib.hid hbe
  have HZ3 := Lib.hid hz3
  have HZ4 := Lib.hid hz4
  clear h hal hbe hz3 hz4
  go_enter Tryz.func13, Tryz.ntmps13
  go_wp2_with (first | (go_at_call 7; (refine (cright_any k p e wh b l _).mono ?_); rw [HR.out]; rintro en w1 ⟨rfl, hb_w1⟩; have k1_0 : w1.cell? ⟨w.heap.size, 0, none⟩ = some (.int .i64 k) := cell_keep hb_w1 (cell_top rfl rfl); have k1_1 : w1.cell? ⟨w.heap.size, 1, none⟩ = some (.int .i64 p) := cell_keep hb_w1 (cell_top rfl rfl); have k1_2 : w1.cell? ⟨w.heap.size, 2, none⟩ = some (.int .i64 e) := cell_keep hb_w1 (cell_top rfl rfl); have k1_3 : w1.cell? ⟨w.heap.size, 3, none⟩ = some (.int .i64 wh) := cell_keep hb_w1 (cell_top rfl rfl); have k1_4 : w1.cell? ⟨w.heap.size, 4, none⟩ = some (.int .i64 b) := cell_keep hb_w1 (cell_top rfl rfl); have k1_5 : w1.cell? ⟨w.heap.size, 5, none⟩ = some (.int .i64 l) := cell_keep hb_w1 (cell_top rfl rfl)) | (go_at_call 41; (refine (always_any k p e wh b l _).mono ?_); rw [HA.out]; rintro en w2 ⟨rfl, hb_w2⟩; have k2_0 := cell_keep hb_w2 k1_0; have k2_1 := cell_keep hb_w2 k1_1; have k2_2 := cell_keep hb_w2 k1_2; have k2_3 := cell_keep hb_w2 k1_3; have k2_4 := cell_keep hb_w2 k1_4; have k2_5 := cell_keep hb_w2 k1_5; have hlt2 : w.heap.size < w2.heap.size := World.block_lt_of_cell? _ _ k2_0) | (go_at_call 42; (refine (rules_two k p e wh b l _ HR.out hk).mono ?_); rw [HBE.out, HZ3.out, HZ4.out]; rintro en w3 ⟨g, cg, rfl, hg1, hg2, hg3, r0, r1, r2, r3, r4, r5, r6, r7, hb_w3⟩; have N3 : PolNew w3 w2.heap.size false (.slice none 0 0) := (PolNew.mk (heap_alloc_new _ _)).below hb_w3))
  refine wp_loop_rounds 3 ?_
  rw [rounds_succ]
  go_wp2_with fail
  obtain ⟨w4, hw4⟩ : ∃ w4 : World, w4 = w3.alloc (.cells #[.int .i64 p, .int .i64 e, .bool false, .bool false] 117) := ⟨_, rfl⟩
  have s4 : w3.heap.size < w4.heap.size := by rw [hw4]; simp
  have hb_w4 : Below w3.heap.size w3 w4 := by rw [hw4]; exact (Below.refl _ _).alloc (Nat.le_refl _) _
  have hs23 : w2.heap.size < w3.heap.size := N3.lt
  have S0 : Box4 w3.heap.size p e false false w4 := by rw [hw4]; exact ⟨cell_top rfl rfl, cell_top rfl rfl, cell_top rfl rfl, cell_top rfl rfl⟩
  have N4 : PolNew w4 w2.heap.size false (.slice none 0 0) := N3.below hb_w4
  have r4' := cell_keep hb_w4 r4
  have r5' := cell_keep hb_w4 r5
  have r6' := cell_keep hb_w4 r6
  have r7' := cell_keep hb_w4 r7
  rw [← hw4]
  clear hw4 r0 r1 r2 r3 r4 r5 r6 r7
  have hW : Below w.heap.size w w3 := newB hb_w1 hb_w2 hb_w3
  have bW4 : Below w.heap.size w w4.drew := (hW.trans (hb_w4.mono hW.size)).drew
  have hwP : w.heap.size ≤ w2.heap.size := Nat.le_of_lt hlt2
  have hPg : w2.heap.size ≠ g := by simp at hg1; omega
  have hg4 : g < w4.heap.size := by omega
  refine wp_cut_frame3 (fun ra cr W => NewR w w2.heap.size w4.heap.size false 1 [⟨p, e, false, false, w4.heap.size⟩] ⟨p, e, false, false, w4.heap.size⟩ 0 ra cr W ∧ SameB g w4 W ∧ w4.heap.size < W.heap.size) ?_
  apply Exists.intro
  apply And.intro
  focus
    have S4 : Box4 w3.heap.size p e false false w4.drew := ⟨S0.1, S0.2.1, S0.2.2.1, S0.2.2.2⟩
    have M4 : PolNew w4.drew w2.heap.size false (.slice none 0 0) := ⟨N4.row⟩
    obtain ⟨n0, n1⟩ := M4.cells
    have g0 := fun g : Wits (Box4 w3.heap.size p e false false) => (Wits.is g).1
    have g1 := fun g : Wits (Box4 w3.heap.size p e false false) => (Wits.is g).2.1
    have g2 := fun g : Wits (Box4 w3.heap.size p e false false) => (Wits.is g).2.2.1
    have g3 := fun g : Wits (Box4 w3.heap.size p e false false) => (Wits.is g).2.2.2
    refine wp_region_float (Box4 w3.heap.size p e false false) [10, 11, 12, 13, 14, 15, 16, 17] [0, 1, 2, 3, 5, 6, 7, 8, 9, 10, 11, 12, 13, 14, 15, 16, 17] 4 14 _ _ (by kernel_rfl) (by kernel_rfl) (by kernel_rfl) (by simp only [List.filterMap_cons, List.getElem?_cons_zero, List.getElem?_cons_succ, Option.map_some, List.filterMap_nil]; rfl) rfl rfl rfl rfl S4 ?_
    refine float_quietB_n 9 rfl S4 ?_
    intro _
    (simp only [List.take_succ_cons, List.take_zero, List.drop_succ_cons, List.drop_zero, List.map_cons, List.map_nil])
    (repeat (go_big_quiet_step (fail)))
    (refine wpQuiet_nil ?_)
    clear g0 g1 g2 g3
    have O4 := OwnP.nil w4.drew w.heap.size
    refine float_one rfl rfl rfl ?_ ?_
    focus
      go_wp2; (refine ⟨rfl, S4, ?_⟩)
      (refine lead_one rfl ?_ S4)
      go_wp2_with (go_at_call 43; (with_reducible refine (newB_at p e _ (by omega) (by omega) (by omega) (by omega)).mono ?_); rintro en A1 ⟨rfl, K1, bA1, sA1⟩; have S1 := S4.below bA1; have M1 := M4.below bA1; have O1 := O4.below bA1; have u1 := M1.cells.1; have bA2 := (Below.refl A1.heap.size A1).alloc (Nat.le_refl _) (.cells #[.int .i64 p, .int .i64 e, .bool false, .bool false, .iface 118 (.pointer (some ⟨w4.heap.size, 0, none⟩))] 123); have S2 := S1.below bA2; have M2 := M1.below bA2; have O2 := O1.below bA2; have K2 := K1.below bA2; have u2 := M2.cells.1; have h8 := bA1.size; (simp at h8))
      refine ⟨rfl, S1, ?_⟩
      (refine lead_one rfl ?_ S1)
      go_wp2; (refine ⟨rfl, S1, ?_⟩)
      (refine lead_one rfl ?_ S1)
      go_wp2; (refine ⟨rfl, S1, ?_⟩)
      (refine lead_one rfl ?_ S1)
      go_wp2; (refine ⟨rfl, S2, ?_⟩)
      (refine lead_one rfl ?_ S2)
      go_wp2_with (at_builtin; refine wpList_append_rule rfl _ _ rfl (v := (.slice none 0 0)) (n := 0) (xs := []) (b := A1.heap.size) (r := ⟨p, e, false, false, w4.heap.size⟩) (base := w.heap.size) rfl O2 rfl ?hc (by omega) ?hbase ?_; (case hc => exact ⟨cell_top rfl rfl, cell_top rfl rfl, cell_top rfl rfl, cell_top rfl rfl, cell_top rfl rfl⟩); (case hbase => (simp; omega)); intro v6 w6 O6 G6 hb_w6; obtain ⟨ra, cr, rfl, hra1, hra2, ⟨cur, fr, hcur⟩, hRs⟩ := O6.at (by omega); have S6 := S2.grown G6 (by simp [Value.ownBlock]); have K6 : BuckAt w6 w4.heap.size p e 0 false := (G6.block _ K2.lt (by simp [Value.ownBlock])).trans K2; have M6 : PolNew w6 w2.heap.size false (.slice none 0 0) := PolNew.mk ((G6.block _ M2.lt (by simp [Value.ownBlock])).trans M2.row); have m0 := M6.cells.1; have m1 := M6.cells.2)
      refine ⟨rfl, S6, ?_⟩
      (refine lead_one rfl ?_ S6)
      go_wp2; (refine ⟨rfl, S6, ?_⟩)
      (refine lead_one rfl ?_ S6)
      go_wp2; (refine ⟨rfl, S6, ?_⟩)
      (refine lead_one rfl ?_ S6)
      go_wp2
      refine ⟨rfl, S6.set (by omega), ?_⟩
      refine lead_nil ?_
      obtain ⟨a1, ha1⟩ : ∃ a, a = A1.heap.size := ⟨_, rfl⟩
      rw [← ha1]
      exact ⟨ra, cr, a1, rfl, rfl, newR bW4 bA1 O6 hb_w6 K6 M6 hcur (hRs 0 _ rfl) hwP, kept_g bA1 G6 hg4 hPg, (by have h9 := G6.size; (simp at h9); simp; omega)⟩
    go_wp2_with (go_at_call 43; (with_reducible refine (newB_at p e _ (by omega) (by omega) (by omega) (by omega)).mono ?_); rintro en A1 ⟨rfl, K1, bA1, sA1⟩; have S1 := S4.below bA1; have M1 := M4.below bA1; have O1 := O4.below bA1; have u1 := M1.cells.1; have bA2 := (Below.refl A1.heap.size A1).alloc (Nat.le_refl _) (.cells #[.int .i64 p, .int .i64 e, .bool false, .bool false, .iface 118 (.pointer (some ⟨w4.heap.size, 0, none⟩))] 123); have S2 := S1.below bA2; have M2 := M1.below bA2; have O2 := O1.below bA2; have K2 := K1.below bA2; have u2 := M2.cells.1; have h8 := bA1.size; (simp at h8))
    refine ⟨rfl, S1, ?_⟩
    refine float_one rfl rfl rfl ?_ ?_
    focus
      go_wp2; (refine ⟨rfl, S1, ?_⟩)
      (refine lead_one rfl ?_ S1)
      go_wp2; (refine ⟨rfl, S1, ?_⟩)
      (refine lead_one rfl ?_ S1)
      go_wp2; (refine ⟨rfl, S1, ?_⟩)
      (refine lead_one rfl ?_ S1)
      go_wp2; (refine ⟨rfl, S2, ?_⟩)
      (refine lead_one rfl ?_ S2)
      go_wp2_with (at_builtin; refine wpList_append_rule rfl _ _ rfl (v := (.slice none 0 0)) (n := 0) (xs := []) (b := A1.heap.size) (r := ⟨p, e, false, false, w4.heap.size⟩) (base := w.heap.size) rfl O2 rfl ?hc (by omega) ?hbase ?_; (case hc => exact ⟨cell_top rfl rfl, cell_top rfl rfl, cell_top rfl rfl, cell_top rfl rfl, cell_top rfl rfl⟩); (case hbase => (simp; omega)); intro v6 w6 O6 G6 hb_w6; obtain ⟨ra, cr, rfl, hra1, hra2, ⟨cur, fr, hcur⟩, hRs⟩ := O6.at (by omega); have S6 := S2.grown G6 (by simp [Value.ownBlock]); have K6 : BuckAt w6 w4.heap.size p e 0 false := (G6.block _ K2.lt (by simp [Value.ownBlock])).trans K2; have M6 : PolNew w6 w2.heap.size false (.slice none 0 0) := PolNew.mk ((G6.block _ M2.lt (by simp [Value.ownBlock])).trans M2.row); have m0 := M6.cells.1; have m1 := M6.cells.2)
      refine ⟨rfl, S6, ?_⟩
      (refine lead_one rfl ?_ S6)
      go_wp2; (refine ⟨rfl, S6, ?_⟩)
      (refine lead_one rfl ?_ S6)
      go_wp2; (refine ⟨rfl, S6, ?_⟩)
      (refine lead_one rfl ?_ S6)
      go_wp2
      refine ⟨rfl, S6.set (by omega), ?_⟩
      refine lead_nil ?_
      obtain ⟨a1, ha1⟩ : ∃ a, a = A1.heap.size := ⟨_, rfl⟩
      rw [← ha1]
      exact ⟨ra, cr, a1, rfl, rfl, newR bW4 bA1 O6 hb_w6 K6 M6 hcur (hRs 0 _ rfl) hwP, kept_g bA1 G6 hg4 hPg, (by have h9 := G6.size; (simp at h9); simp; omega)⟩
    go_wp2; (refine ⟨rfl, S1, ?_⟩)
    refine float_one rfl rfl rfl ?_ ?_
    focus
      go_wp2; (refine ⟨rfl, S1, ?_⟩)
      (refine lead_one rfl ?_ S1)
      go_wp2; (refine ⟨rfl, S1, ?_⟩)
      (refine lead_one rfl ?_ S1)
      go_wp2; (refine ⟨rfl, S2, ?_⟩)
      (refine lead_one rfl ?_ S2)
      go_wp2_with (at_builtin; refine wpList_append_rule rfl _ _ rfl (v := (.slice none 0 0)) (n := 0) (xs := []) (b := A1.heap.size) (r := ⟨p, e, false, false, w4.heap.size⟩) (base := w.heap.size) rfl O2 rfl ?hc (by omega) ?hbase ?_; (case hc => exact ⟨cell_top rfl rfl, cell_top rfl rfl, cell_top rfl rfl, cell_top rfl rfl, cell_top rfl rfl⟩); (case hbase => (simp; omega)); intro v6 w6 O6 G6 hb_w6; obtain ⟨ra, cr, rfl, hra1, hra2, ⟨cur, fr, hcur⟩, hRs⟩ := O6.at (by omega); have S6 := S2.grown G6 (by simp [Value.ownBlock]); have K6 : BuckAt w6 w4.heap.size p e 0 false := (G6.block _ K2.lt (by simp [Value.ownBlock])).trans K2; have M6 : PolNew w6 w2.heap.size false (.slice none 0 0) := PolNew.mk ((G6.block _ M2.lt (by simp [Value.ownBlock])).trans M2.row); have m0 := M6.cells.1; have m1 := M6.cells.2)
      refine ⟨rfl, S6, ?_⟩
      (refine lead_one rfl ?_ S6)
      go_wp2; (refine ⟨rfl, S6, ?_⟩)
      (refine lead_one rfl ?_ S6)
      go_wp2; (refine ⟨rfl, S6, ?_⟩)
      (refine lead_one rfl ?_ S6)
      go_wp2
      refine ⟨rfl, S6.set (by omega), ?_⟩
      refine lead_nil ?_
      obtain ⟨a1, ha1⟩ : ∃ a, a = A1.heap.size := ⟨_, rfl⟩
      rw [← ha1]
      exact ⟨ra, cr, a1, rfl, rfl, newR bW4 bA1 O6 hb_w6 K6 M6 hcur (hRs 0 _ rfl) hwP, kept_g bA1 G6 hg4 hPg, (by have h9 := G6.size; (simp at h9); simp; omega)⟩
    go_wp2; (refine ⟨rfl, S1, ?_⟩)
    refine float_one rfl rfl rfl ?_ ?_
    focus
      go_wp2; (refine ⟨rfl, S1, ?_⟩)
      (refine lead_one rfl ?_ S1)
      go_wp2; (refine ⟨rfl, S2, ?_⟩)
      (refine lead_one rfl ?_ S2)
      go_wp2_with (at_builtin; refine wpList_append_rule rfl _ _ rfl (v := (.slice none 0 0)) (n := 0) (xs := []) (b := A1.heap.size) (r := ⟨p, e, false, false, w4.heap.size⟩) (base := w.heap.size) rfl O2 rfl ?hc (by omega) ?hbase ?_; (case hc => exact ⟨cell_top rfl rfl, cell_top rfl rfl, cell_top rfl rfl, cell_top rfl rfl, cell_top rfl rfl⟩); (case hbase => (simp; omega)); intro v6 w6 O6 G6 hb_w6; obtain ⟨ra, cr, rfl, hra1, hra2, ⟨cur, fr, hcur⟩, hRs⟩ := O6.at (by omega); have S6 := S2.grown G6 (by simp [Value.ownBlock]); have K6 : BuckAt w6 w4.heap.size p e 0 false := (G6.block _ K2.lt (by simp [Value.ownBlock])).trans K2; have M6 : PolNew w6 w2.heap.size false (.slice none 0 0) := PolNew.mk ((G6.block _ M2.lt (by simp [Value.ownBlock])).trans M2.row); have m0 := M6.cells.1; have m1 := M6.cells.2)
      refine ⟨rfl, S6, ?_⟩
      (refine lead_one rfl ?_ S6)
      go_wp2; (refine ⟨rfl, S6, ?_⟩)
      (refine lead_one rfl ?_ S6)
      go_wp2; (refine ⟨rfl, S6, ?_⟩)
      (refine lead_one rfl ?_ S6)
      go_wp2
      refine ⟨rfl, S6.set (by omega), ?_⟩
      refine lead_nil ?_
      obtain ⟨a1, ha1⟩ : ∃ a, a = A1.heap.size := ⟨_, rfl⟩
      rw [← ha1]
      exact ⟨ra, cr, a1, rfl, rfl, newR bW4 bA1 O6 hb_w6 K6 M6 hcur (hRs 0 _ rfl) hwP, kept_g bA1 G6 hg4 hPg, (by have h9 := G6.size; (simp at h9); simp; omega)⟩
    go_wp2; (refine ⟨rfl, S2, ?_⟩)
    refine float_stop rfl rfl ?_
    focus
      go_wp2; (refine ⟨rfl, S2, ?_⟩)
      (refine lead_one rfl ?_ S2)
      go_wp2_with (at_builtin; refine wpList_append_rule rfl _ _ rfl (v := (.slice none 0 0)) (n := 0) (xs := []) (b := A1.heap.size) (r := ⟨p, e, false, false, w4.heap.size⟩) (base := w.heap.size) rfl O2 rfl ?hc (by omega) ?hbase ?_; (case hc => exact ⟨cell_top rfl rfl, cell_top rfl rfl, cell_top rfl rfl, cell_top rfl rfl, cell_top rfl rfl⟩); (case hbase => (simp; omega)); intro v6 w6 O6 G6 hb_w6; obtain ⟨ra, cr, rfl, hra1, hra2, ⟨cur, fr, hcur⟩, hRs⟩ := O6.at (by omega); have S6 := S2.grown G6 (by simp [Value.ownBlock]); have K6 : BuckAt w6 w4.heap.size p e 0 false := (G6.block _ K2.lt (by simp [Value.ownBlock])).trans K2; have M6 : PolNew w6 w2.heap.size false (.slice none 0 0) := PolNew.mk ((G6.block _ M2.lt (by simp [Value.ownBlock])).trans M2.row); have m0 := M6.cells.1; have m1 := M6.cells.2)
      refine ⟨rfl, S6, ?_⟩
      (refine lead_one rfl ?_ S6)
      go_wp2; (refine ⟨rfl, S6, ?_⟩)
      (refine lead_one rfl ?_ S6)
      go_wp2; (refine ⟨rfl, S6, ?_⟩)
      (refine lead_one rfl ?_ S6)
      go_wp2
      refine ⟨rfl, S6.set (by omega), ?_⟩
      refine lead_nil ?_
      obtain ⟨a1, ha1⟩ : ∃ a, a = A1.heap.size := ⟨_, rfl⟩
      rw [← ha1]
      exact ⟨ra, cr, a1, rfl, rfl, newR bW4 bA1 O6 hb_w6 K6 M6 hcur (hRs 0 _ rfl) hwP, kept_g bA1 G6 hg4 hPg, (by have h9 := G6.size; (simp at h9); simp; omega)⟩
  rintro ra cr a1 W ⟨⟨HN, HO, HK, ⟨cur, fr, hcur⟩, HRs, HB⟩, hkg, hsW⟩
  have hkg : W.heap[g]? = w4.heap[g]? := hkg
  have q4 := (World.cell?_of_block (a := ⟨g, 4, none⟩) hkg).trans r4'
  have q5 := (World.cell?_of_block (a := ⟨g, 5, none⟩) hkg).trans r5'
  have q6 := (World.cell?_of_block (a := ⟨g, 6, none⟩) hkg).trans r6'
  have q7 := (World.cell?_of_block (a := ⟨g, 7, none⟩) hkg).trans r7'
  clear hkg
  have hgW : g < W.heap.size := World.block_lt_of_cell? _ _ q4
  go_wp2_with fail
  rw [rounds_succ]
  go_wp2_with fail
  obtain ⟨w7, hw7⟩ : ∃ w7 : World, w7 = W.alloc (.cells #[.int .i64 wh, .int .i64 be, .bool z3, .bool z4] 117) := ⟨_, rfl⟩
  have s7 : W.heap.size < w7.heap.size := by rw [hw7]; simp
  have hb_w7 : Below W.heap.size W w7 := by rw [hw7]; exact (Below.refl _ _).alloc (Nat.le_refl _) _
  have S0 : Box4 W.heap.size wh be z3 z4 w7 := by rw [hw7]; exact ⟨cell_top rfl rfl, cell_top rfl rfl, cell_top rfl rfl, cell_top rfl rfl⟩
  have N4 : PolNew w7 w2.heap.size false (.slice (some ⟨ra, 0, none⟩) 1 cr) := HN.below hb_w7
  have K7 : BuckAt w7 w4.heap.size p e 0 false := HK.below hb_w7
  rw [← hw7]
  clear hw7 q4 q5 q6 q7 r4' r5' r6' r7'
  have bW7 : Below w.heap.size w w7.drew := (HB.trans (hb_w7.mono HB.size)).drew
  have hraW : ra < W.heap.size := (Array.getElem?_eq_some_iff.1 hcur).1
  have hPra := apart_pr HN hcur
  have hbra := apart_br HK hcur
  have hbP := apart_pb HN HK
  refine wp_cut_frame3 (fun ra' cr W => NewR w w2.heap.size w7.heap.size false 2 [⟨p, e, false, false, w4.heap.size⟩, ⟨wh, be, z3, z4, w7.heap.size⟩] ⟨wh, be, z3, z4, w7.heap.size⟩ 1 ra' cr W ∧ RsAt W ra' 0 ⟨p, e, false, false, w4.heap.size⟩ ∧ BuckAt W w4.heap.size p e 0 false) ?_
  apply Exists.intro
  apply And.intro
  focus
    have S4 : Box4 W.heap.size wh be z3 z4 w7.drew := ⟨S0.1, S0.2.1, S0.2.2.1, S0.2.2.2⟩
    have M4 : PolNew w7.drew w2.heap.size false (.slice (some ⟨ra, 0, none⟩) 1 cr) := ⟨N4.row⟩
    obtain ⟨n0, n1⟩ := M4.cells
    have g0 := fun g : Wits (Box4 W.heap.size wh be z3 z4) => (Wits.is g).1
    have g1 := fun g : Wits (Box4 W.heap.size wh be z3 z4) => (Wits.is g).2.1
    have g2 := fun g : Wits (Box4 W.heap.size wh be z3 z4) => (Wits.is g).2.2.1
    have g3 := fun g : Wits (Box4 W.heap.size wh be z3 z4) => (Wits.is g).2.2.2
    refine wp_region_float (Box4 W.heap.size wh be z3 z4) [10, 11, 12, 13, 14, 15, 16, 17] [0, 1, 2, 3, 5, 6, 7, 8, 9, 10, 11, 12, 13, 14, 15, 16, 17] 4 14 _ _ (by kernel_rfl) (by kernel_rfl) (by kernel_rfl) (by simp only [List.filterMap_cons, List.getElem?_cons_zero, List.getElem?_cons_succ, Option.map_some, List.filterMap_nil]; rfl) rfl rfl rfl rfl S4 ?_
    refine float_quietB_n 9 rfl S4 ?_
    intro _
    (simp only [List.take_succ_cons, List.take_zero, List.drop_succ_cons, List.drop_zero, List.map_cons, List.map_nil])
    (repeat (go_big_quiet_step (fail)))
    (refine wpQuiet_nil ?_)
    clear g0 g1 g2 g3
    have O4 := (HO.below hb_w7).below (Below.drew (Below.refl w7.heap.size w7))
    refine float_one rfl rfl rfl ?_ ?_
    focus
      go_wp2; (refine ⟨rfl, S4, ?_⟩)
      (refine lead_one rfl ?_ S4)
      go_wp2_with (go_at_call 43; (with_reducible refine (newB_at wh be _ (by omega) (by omega) (by omega) (by omega)).mono ?_); rintro en A1 ⟨rfl, K1, bA1, sA1⟩; have S1 := S4.below bA1; have M1 := M4.below bA1; have O1 := O4.below bA1; have u1 := M1.cells.1; have bA2 := (Below.refl A1.heap.size A1).alloc (Nat.le_refl _) (.cells #[.int .i64 wh, .int .i64 be, .bool z3, .bool z4, .iface 118 (.pointer (some ⟨w7.heap.size, 0, none⟩))] 123); have S2 := S1.below bA2; have M2 := M1.below bA2; have O2 := O1.below bA2; have K2 := K1.below bA2; have u2 := M2.cells.1; have h8 := bA1.size; (simp at h8))
      refine ⟨rfl, S1, ?_⟩
      (refine lead_one rfl ?_ S1)
      go_wp2; (refine ⟨rfl, S1, ?_⟩)
      (refine lead_one rfl ?_ S1)
      go_wp2; (refine ⟨rfl, S1, ?_⟩)
      (refine lead_one rfl ?_ S1)
      go_wp2; (refine ⟨rfl, S2, ?_⟩)
      (refine lead_one rfl ?_ S2)
      go_wp2_with (at_builtin; refine wpList_append_rule rfl _ _ rfl (v := (.slice (some ⟨ra, 0, none⟩) 1 cr)) (n := 1) (xs := [⟨p, e, false, false, w4.heap.size⟩]) (b := A1.heap.size) (r := ⟨wh, be, z3, z4, w7.heap.size⟩) (base := w.heap.size) rfl O2 rfl ?hc (by omega) ?hbase ?_; (case hc => exact ⟨cell_top rfl rfl, cell_top rfl rfl, cell_top rfl rfl, cell_top rfl rfl, cell_top rfl rfl⟩); (case hbase => (simp; omega)); intro v6 w6 O6 G6 hb_w6; obtain ⟨ra', cr', rfl, hra1, hra2, ⟨cur, fr, hcur⟩, hRs⟩ := O6.at (by omega); have S6 := S2.grown G6 (own_ne (show W.heap.size ≠ ra by omega)); have K6 : BuckAt w6 w7.heap.size wh be 0 false := (G6.block _ K2.lt (own_ne (show w7.heap.size ≠ ra by omega))).trans K2; have M6 : PolNew w6 w2.heap.size false (.slice (some ⟨ra, 0, none⟩) 1 cr) := PolNew.mk ((G6.block _ M2.lt (own_ne hPra)).trans M2.row); have m0 := M6.cells.1; have m1 := M6.cells.2)
      refine ⟨rfl, S6, ?_⟩
      (refine lead_one rfl ?_ S6)
      go_wp2; (refine ⟨rfl, S6, ?_⟩)
      (refine lead_one rfl ?_ S6)
      go_wp2; (refine ⟨rfl, S6, ?_⟩)
      (refine lead_one rfl ?_ S6)
      go_wp2
      refine ⟨rfl, S6.set (by omega), ?_⟩
      refine lead_nil ?_
      obtain ⟨a1, ha1⟩ : ∃ a, a = A1.heap.size := ⟨_, rfl⟩
      rw [← ha1]
      exact ⟨ra', cr', a1, rfl, rfl, newR bW7 bA1 O6 hb_w6 K6 M6 hcur (hRs 1 _ rfl) hwP, rs_set (apart_pr M6 hcur) (hRs 0 _ rfl), buck_kept bA1 G6 K7 hbra hbP⟩
    go_wp2_with (go_at_call 43; (with_reducible refine (newB_at wh be _ (by omega) (by omega) (by omega) (by omega)).mono ?_); rintro en A1 ⟨rfl, K1, bA1, sA1⟩; have S1 := S4.below bA1; have M1 := M4.below bA1; have O1 := O4.below bA1; have u1 := M1.cells.1; have bA2 := (Below.refl A1.heap.size A1).alloc (Nat.le_refl _) (.cells #[.int .i64 wh, .int .i64 be, .bool z3, .bool z4, .iface 118 (.pointer (some ⟨w7.heap.size, 0, none⟩))] 123); have S2 := S1.below bA2; have M2 := M1.below bA2; have O2 := O1.below bA2; have K2 := K1.below bA2; have u2 := M2.cells.1; have h8 := bA1.size; (simp at h8))
    refine ⟨rfl, S1, ?_⟩
    refine float_one rfl rfl rfl ?_ ?_
    focus
      go_wp2; (refine ⟨rfl, S1, ?_⟩)
      (refine lead_one rfl ?_ S1)
      go_wp2; (refine ⟨rfl, S1, ?_⟩)
      (refine lead_one rfl ?_ S1)
      go_wp2; (refine ⟨rfl, S1, ?_⟩)
      (refine lead_one rfl ?_ S1)
      go_wp2; (refine ⟨rfl, S2, ?_⟩)
      (refine lead_one rfl ?_ S2)
      go_wp2_with (at_builtin; refine wpList_append_rule rfl _ _ rfl (v := (.slice (some ⟨ra, 0, none⟩) 1 cr)) (n := 1) (xs := [⟨p, e, false, false, w4.heap.size⟩]) (b := A1.heap.size) (r := ⟨wh, be, z3, z4, w7.heap.size⟩) (base := w.heap.size) rfl O2 rfl ?hc (by omega) ?hbase ?_; (case hc => exact ⟨cell_top rfl rfl, cell_top rfl rfl, cell_top rfl rfl, cell_top rfl rfl, cell_top rfl rfl⟩); (case hbase => (simp; omega)); intro v6 w6 O6 G6 hb_w6; obtain ⟨ra', cr', rfl, hra1, hra2, ⟨cur, fr, hcur⟩, hRs⟩ := O6.at (by omega); have S6 := S2.grown G6 (own_ne (show W.heap.size ≠ ra by omega)); have K6 : BuckAt w6 w7.heap.size wh be 0 false := (G6.block _ K2.lt (own_ne (show w7.heap.size ≠ ra by omega))).trans K2; have M6 : PolNew w6 w2.heap.size false (.slice (some ⟨ra, 0, none⟩) 1 cr) := PolNew.mk ((G6.block _ M2.lt (own_ne hPra)).trans M2.row); have m0 := M6.cells.1; have m1 := M6.cells.2)
      refine ⟨rfl, S6, ?_⟩
      (refine lead_one rfl ?_ S6)
      go_wp2; (refine ⟨rfl, S6, ?_⟩)
      (refine lead_one rfl ?_ S6)
      go_wp2; (refine ⟨rfl, S6, ?_⟩)
      (refine lead_one rfl ?_ S6)
      go_wp2
      refine ⟨rfl, S6.set (by omega), ?_⟩
      refine lead_nil ?_
      obtain ⟨a1, ha1⟩ : ∃ a, a = A1.heap.size := ⟨_, rfl⟩
      rw [← ha1]
      exact ⟨ra', cr', a1, rfl, rfl, newR bW7 bA1 O6 hb_w6 K6 M6 hcur (hRs 1 _ rfl) hwP, rs_set (apart_pr M6 hcur) (hRs 0 _ rfl), buck_kept bA1 G6 K7 hbra hbP⟩
    go_wp2; (refine ⟨rfl, S1, ?_⟩)
    refine float_one rfl rfl rfl ?_ ?_
    focus
      go_wp2; (refine ⟨rfl, S1, ?_⟩)
      (refine lead_one rfl ?_ S1)
      go_wp2; (refine ⟨rfl, S1, ?_⟩)
      (refine lead_one rfl ?_ S1)
      go_wp2; (refine ⟨rfl, S2, ?_⟩)
      (refine lead_one rfl ?_ S2)
      go_wp2_with (at_builtin; refine wpList_append_rule rfl _ _ rfl (v := (.slice (some ⟨ra, 0, none⟩) 1 cr)) (n := 1) (xs := [⟨p, e, false, false, w4.heap.size⟩]) (b := A1.heap.size) (r := ⟨wh, be, z3, z4, w7.heap.size⟩) (base := w.heap.size) rfl O2 rfl ?hc (by omega) ?hbase ?_; (case hc => exact ⟨cell_top rfl rfl, cell_top rfl rfl, cell_top rfl rfl, cell_top rfl rfl, cell_top rfl rfl⟩); (case hbase => (simp; omega)); intro v6 w6 O6 G6 hb_w6; obtain ⟨ra', cr', rfl, hra1, hra2, ⟨cur, fr, hcur⟩, hRs⟩ := O6.at (by omega); have S6 := S2.grown G6 (own_ne (show W.heap.size ≠ ra by omega)); have K6 : BuckAt w6 w7.heap.size wh be 0 false := (G6.block _ K2.lt (own_ne (show w7.heap.size ≠ ra by omega))).trans K2; have M6 : PolNew w6 w2.heap.size false (.slice (some ⟨ra, 0, none⟩) 1 cr) := PolNew.mk ((G6.block _ M2.lt (own_ne hPra)).trans M2.row); have m0 := M6.cells.1; have m1 := M6.cells.2)
      refine ⟨rfl, S6, ?_⟩
      (refine lead_one rfl ?_ S6)
      go_wp2; (refine ⟨rfl, S6, ?_⟩)
      (refine lead_one rfl ?_ S6)
      go_wp2; (refine ⟨rfl, S6, ?_⟩)
      (refine lead_one rfl ?_ S6)
      go_wp2
      refine ⟨rfl, S6.set (by omega), ?_⟩
      refine lead_nil ?_
      obtain ⟨a1, ha1⟩ : ∃ a, a = A1.heap.size := ⟨_, rfl⟩
      rw [← ha1]
      exact ⟨ra', cr', a1, rfl, rfl, newR bW7 bA1 O6 hb_w6 K6 M6 hcur (hRs 1 _ rfl) hwP, rs_set (apart_pr M6 hcur) (hRs 0 _ rfl), buck_kept bA1 G6 K7 hbra hbP⟩
    go_wp2; (refine ⟨rfl, S1, ?_⟩)
    refine float_one rfl rfl rfl ?_ ?_
    focus
      go_wp2; (refine ⟨rfl, S1, ?_⟩)
      (refine lead_one rfl ?_ S1)
      go_wp2; (refine ⟨rfl, S2, ?_⟩)
      (refine lead_one rfl ?_ S2)
      go_wp2_with (at_builtin; refine wpList_append_rule rfl _ _ rfl (v := (.slice (some ⟨ra, 0, none⟩) 1 cr)) (n := 1) (xs := [⟨p, e, false, false, w4.heap.size⟩]) (b := A1.heap.size) (r := ⟨wh, be, z3, z4, w7.heap.size⟩) (base := w.heap.size) rfl O2 rfl ?hc (by omega) ?hbase ?_; (case hc => exact ⟨cell_top rfl rfl, cell_top rfl rfl, cell_top rfl rfl, cell_top rfl rfl, cell_top rfl rfl⟩); (case hbase => (simp; omega)); intro v6 w6 O6 G6 hb_w6; obtain ⟨ra', cr', rfl, hra1, hra2, ⟨cur, fr, hcur⟩, hRs⟩ := O6.at (by omega); have S6 := S2.grown G6 (own_ne (show W.heap.size ≠ ra by omega)); have K6 : BuckAt w6 w7.heap.size wh be 0 false := (G6.block _ K2.lt (own_ne (show w7.heap.size ≠ ra by omega))).trans K2; have M6 : PolNew w6 w2.heap.size false (.slice (some ⟨ra, 0, none⟩) 1 cr) := PolNew.mk ((G6.block _ M2.lt (own_ne hPra)).trans M2.row); have m0 := M6.cells.1; have m1 := M6.cells.2)
      refine ⟨rfl, S6, ?_⟩
      (refine lead_one rfl ?_ S6)
      go_wp2; (refine ⟨rfl, S6, ?_⟩)
      (refine lead_one rfl ?_ S6)
      go_wp2; (refine ⟨rfl, S6, ?_⟩)
      (refine lead_one rfl ?_ S6)
      go_wp2
      refine ⟨rfl, S6.set (by omega), ?_⟩
      refine lead_nil ?_
      obtain ⟨a1, ha1⟩ : ∃ a, a = A1.heap.size := ⟨_, rfl⟩
      rw [← ha1]
      exact ⟨ra', cr', a1, rfl, rfl, newR bW7 bA1 O6 hb_w6 K6 M6 hcur (hRs 1 _ rfl) hwP, rs_set (apart_pr M6 hcur) (hRs 0 _ rfl), buck_kept bA1 G6 K7 hbra hbP⟩
    go_wp2; (refine ⟨rfl, S2, ?_⟩)
    refine float_stop rfl rfl ?_
    focus
      go_wp2; (refine ⟨rfl, S2, ?_⟩)
      (refine lead_one rfl ?_ S2)
      go_wp2_with (at_builtin; refine wpList_append_rule rfl _ _ rfl (v := (.slice (some ⟨ra, 0, none⟩) 1 cr)) (n := 1) (xs := [⟨p, e, false, false, w4.heap.size⟩]) (b := A1.heap.size) (r := ⟨wh, be, z3, z4, w7.heap.size⟩) (base := w.heap.size) rfl O2 rfl ?hc (by omega) ?hbase ?_; (case hc => exact ⟨cell_top rfl rfl, cell_top rfl rfl, cell_top rfl rfl, cell_top rfl rfl, cell_top rfl rfl⟩); (case hbase => (simp; omega)); intro v6 w6 O6 G6 hb_w6; obtain ⟨ra', cr', rfl, hra1, hra2, ⟨cur, fr, hcur⟩, hRs⟩ := O6.at (by omega); have S6 := S2.grown G6 (own_ne (show W.heap.size ≠ ra by omega)); have K6 : BuckAt w6 w7.heap.size wh be 0 false := (G6.block _ K2.lt (own_ne (show w7.heap.size ≠ ra by omega))).trans K2; have M6 : PolNew w6 w2.heap.size false (.slice (some ⟨ra, 0, none⟩) 1 cr) := PolNew.mk ((G6.block _ M2.lt (own_ne hPra)).trans M2.row); have m0 := M6.cells.1; have m1 := M6.cells.2)
      refine ⟨rfl, S6, ?_⟩
      (refine lead_one rfl ?_ S6)
      go_wp2; (refine ⟨rfl, S6, ?_⟩)
      (refine lead_one rfl ?_ S6)
      go_wp2; (refine ⟨rfl, S6, ?_⟩)
      (refine lead_one rfl ?_ S6)
      go_wp2
      refine ⟨rfl, S6.set (by omega), ?_⟩
      refine lead_nil ?_
      obtain ⟨a1, ha1⟩ : ∃ a, a = A1.heap.size := ⟨_, rfl⟩
      rw [← ha1]
      exact ⟨ra', cr', a1, rfl, rfl, newR bW7 bA1 O6 hb_w6 K6 M6 hcur (hRs 1 _ rfl) hwP, rs_set (apart_pr M6 hcur) (hRs 0 _ rfl), buck_kept bA1 G6 K7 hbra hbP⟩
  rintro ra' cr' a2 Z ⟨⟨HN2, HO2, HK2, ⟨cur2, fr2, hcur2⟩, HRs2, HB2⟩, HRs1, HK1⟩
  go_wp2_with fail
  rw [rounds_succ]
  go_wp2_with fail
  go_ret2
  have hbb : w4.heap.size ≠ w7.heap.size := by omega
  refine ⟨_, ra', cr', w4.heap.size, w7.heap.size, rfl, ⟨rfl, by omega, apart_pr HN2 hcur2, ?_, ?_, ?_, ?_⟩, ⟨HN2.row, ?_, (Array.getElem?_eq_some_iff.1 hcur2).1, ?_⟩, hwP, by have := hW.size; omega, by have := hW.size; omega, ra_own HO2 (by omega), HB2⟩
  · intro r hr; simp at hr
    rcases hr with rfl | rfl
    · exact ⟨apart_pb HN2 HK1, apart_br HK1 hcur2⟩
    · exact ⟨apart_pb HN2 HK2, apart_br HK2 hcur2⟩
  · intro r hr r' hr' hb
    simp at hr hr'
    rcases hr with rfl | rfl <;> rcases hr' with rfl | rfl
    · rfl
    · exact absurd hb hbb
    · exact absurd hb.symm hbb
    · rfl
  · simp; intro _ _ _ _; exact hbb
  · intro r hr; simp at hr
    rcases hr with rfl | rfl
    · exact ⟨p0, p1, e0, by show e ≤ _; omega⟩
    · exact ⟨q0, q1, f0, f1⟩
  · intro i r hr
    match i, hr with
    | 0, hr => simp at hr; subst hr; exact HRs1
    | 1, hr => simp at hr; subst hr; exact HRs2
    | i + 2, hr => simp at hr
  · intro r hr; simp at hr
    rcases hr with rfl | rfl
    · exact HK1
    · exact HK2
end Go.Proofs.YtaoagbnhomjkpaaGreat

/- A policer as one thing: what it is made of, what it holds, where it lies. -/
namespace Go.Proofs.YtaoagbnhomjkpaaGreat
set_option linter.unusedVariables false
set_option linter.unusedSimpArgs false
open Go.RowKit
set_option maxRecDepth 100000
set_option maxHeartbeats 4000000
structure Pz where
  s1 : Int
  e1 : Int
  s2 : Int
  e2 : Int
  has : Bool
  zero : Bool
  tag : Bool
  al : Bool
structure S4 where
  n1 : Int
  a1 : Bool
  n2 : Int
  a2 : Bool
def Pz.l (c : Pz) (b1 b2 : Nat) : List Rs := ⟨c.s1, c.e1, false, false, b1⟩ :: (if c.has then [⟨c.s2, c.e2, c.zero, c.tag, b2⟩] else [])
def S4.st (S : S4) (b1 b2 : Nat) : Bst := fun b => if b = b1 then (S.n1, S.a1) else (S.n2, S.a2)
def Pz.f1 (c : Pz) (S : S4) (t : Int) : Bool := fitsB c.e1 S.n1 S.a1 t
def Pz.f2 (c : Pz) (S : S4) (t : Int) : Bool := fitsB c.e2 S.n2 S.a2 t
def Pz.as2 (c : Pz) (z : Bool) : Bool := c.has && (!c.zero || z)
def Pz.verd (c : Pz) (S : S4) (t : Int) (z : Bool) : Int := if c.f1 S t = false then 3 else if (c.as2 z && !c.f2 S t) = true then (if c.tag then 2 else 3) else 1
def Pz.last (c : Pz) (S : S4) (t : Int) (z : Bool) : Int := finZ (c.verd S t z) c.al z
def Pz.nxt (c : Pz) (S : S4) (t : Int) (z : Bool) : S4 :=
  { n1 := if c.verd S t z = 3 then S.n1 else nextB c.s1 S.n1 t
    a1 := if c.verd S t z = 3 then S.a1 else true
    n2 := if c.verd S t z = 1 ∧ c.as2 z = true then nextB c.s2 S.n2 t else S.n2
    a2 := if c.verd S t z = 1 ∧ c.as2 z = true then true else S.a2 }
theorem st_one (S : S4) (b1 b2 : Nat) : S.st b1 b2 b1 = (S.n1, S.a1) := by unfold S4.st; rw [if_pos rfl]
theorem st_two (S : S4) {b1 b2 : Nat} (h : b1 ≠ b2) : S.st b1 b2 b2 = (S.n2, S.a2) := by unfold S4.st; rw [if_neg (fun e => h e.symm)]
theorem verd_eq (c : Pz) (S : S4) {b1 b2 : Nat} (h : b1 ≠ b2) (t : Int) (z : Bool) : verdZ (c.l b1 b2) (S.st b1 b2) t z = c.verd S t z := by
  have h2 := st_two S h
  have h1 := st_one S b1 b2
  obtain ⟨s1, e1, s2, e2, has, zero, tag, al⟩ := c
  obtain ⟨f1, g1⟩ : ∃ f, fitsB e1 S.n1 S.a1 t = f := ⟨_, rfl⟩
  obtain ⟨f2, g2⟩ : ∃ f, fitsB e2 S.n2 S.a2 t = f := ⟨_, rfl⟩
  cases has <;> cases zero <;> cases tag <;> cases z <;> cases f1 <;> cases f2 <;>
    simp [verdZ, Pz.verd, Pz.l, Rs.asks, badR, fitR, h1, h2, Pz.f1, Pz.f2, Pz.as2, g1, g2]
theorem nxt_eq (c : Pz) (S : S4) {b1 b2 : Nat} (h : b1 ≠ b2) (t : Int) (z : Bool) : nxtS (c.l b1 b2) (S.st b1 b2) t (c.verd S t z) z b1 = ((c.nxt S t z).n1, (c.nxt S t z).a1) ∧ (c.has = true → nxtS (c.l b1 b2) (S.st b1 b2) t (c.verd S t z) z b2 = ((c.nxt S t z).n2, (c.nxt S t z).a2)) := by
  have hb : ¬ b2 = b1 := fun e => h e.symm
  have h2 := st_two S h
  have h1 := st_one S b1 b2
  obtain ⟨s1, e1, s2, e2, has, zero, tag, al⟩ := c
  obtain ⟨f1, g1⟩ : ∃ f, fitsB e1 S.n1 S.a1 t = f := ⟨_, rfl⟩
  obtain ⟨f2, g2⟩ : ∃ f, fitsB e2 S.n2 S.a2 t = f := ⟨_, rfl⟩
  cases has <;> cases zero <;> cases tag <;> cases z <;> cases f1 <;> cases f2 <;>
    simp [nxtS, Pz.nxt, Pz.verd, Pz.l, Rs.asks, tk, fitR, h1, h2, Pz.f1, Pz.f2, Pz.as2, g1, g2, h, hb]
def S4.Bd (S : S4) (M : Int) : Prop := (0 ≤ S.n1 ∧ S.n1 ≤ M) ∧ (0 ≤ S.n2 ∧ S.n2 ≤ M)
structure Pz.Ok (c : Pz) : Prop where
  s1 : 1 ≤ c.s1 ∧ c.s1 ≤ 1099511627776
  s2 : c.has = true → 1 ≤ c.s2 ∧ c.s2 ≤ 1099511627776
  e1 : 0 ≤ c.e1 ∧ c.e1 ≤ 1099511627776
  e2 : c.has = true → 0 ≤ c.e2 ∧ c.e2 ≤ 2199023255552
theorem nextB_bd {s n t M : Int} (h : 0 ≤ n ∧ n ≤ M) (hs : 1 ≤ s ∧ s ≤ 1099511627776) (hM : 1152921504606846976 ≤ M) : 0 ≤ nextB s n t ∧ nextB s n t ≤ M + 1099511627776 := by
  have hc := clampZ_in (x := t) (lo := 0) (hi := 1152921504606846976) (by omega)
  unfold nextB
  omega
theorem Pz.nxt_bd {c : Pz} (ok : c.Ok) {S : S4} {M : Int} (h : S.Bd M) (hM : 1152921504606846976 ≤ M) (t : Int) (z : Bool) : (c.nxt S t z).Bd (M + 1099511627776) := by
  obtain ⟨h1, h2⟩ := h
  unfold Pz.nxt
  constructor
  · dsimp only
    split
    · omega
    · exact nextB_bd h1 ok.s1 hM
  · dsimp only
    split
    · next hv =>
      have hh : c.has = true := by
        have := hv.2; unfold Pz.as2 at this; cases e : c.has
        · simp [e] at this
        · rfl
      exact nextB_bd h2 (ok.s2 hh) hM
    · omega
def S4.zero : S4 := ⟨0, false, 0, false⟩
/-- a policer that lies between two marks. -/
def PolS (lo hi : Nat) (c : Pz) (S : S4) (c0 c1 c2 c3 : Int) (P : Nat) (w : World) : Prop :=
  ∃ ra cap b1 b2, b1 ≠ b2 ∧ (lo ≤ P ∧ P < hi) ∧ (lo ≤ ra ∧ ra < hi) ∧ (lo ≤ b1 ∧ b1 < hi) ∧ (c.has = true → lo ≤ b2 ∧ b2 < hi) ∧ PolOk P ra (c.l b1 b2).length (c.l b1 b2) ∧ PolAt w P ra (c.l b1 b2).length cap c.al (c.l b1 b2) (S.st b1 b2) c0 c1 c2 c3
theorem Pz.mem {c : Pz} {b1 b2 : Nat} {r : Rs} (h : r ∈ c.l b1 b2) : r = ⟨c.s1, c.e1, false, false, b1⟩ ∨ (c.has = true ∧ r = ⟨c.s2, c.e2, c.zero, c.tag, b2⟩) := by
  unfold Pz.l at h
  cases e : c.has
  · rw [e] at h; simp at h; exact .inl h
  · rw [e] at h; simp at h
    rcases h with h | h
    · exact .inl h
    · exact .inr ⟨rfl, h⟩
theorem PolAt.congr {w : World} {p ra len cap : Nat} {al : Bool} {l : List Rs} {σ τ : Bst} {c0 c1 c2 c3 : Int} (h : PolAt w p ra len cap al l σ c0 c1 c2 c3) (hs : ∀ r ∈ l, σ r.b = τ r.b) : PolAt w p ra len cap al l τ c0 c1 c2 c3 :=
  ⟨h.row, h.rules, h.rlt, fun r hr => by rw [← hs r hr]; exact h.bucks r hr⟩
theorem Pz.bd {c : Pz} {S : S4} {M : Int} (h : S.Bd M) (b1 b2 : Nat) : Bd (c.l b1 b2) (S.st b1 b2) M := by
  intro r _
  unfold S4.st
  split
  · exact h.1
  · exact h.2
theorem PolS.ok {lo hi : Nat} {c : Pz} {S : S4} {c0 c1 c2 c3 : Int} {P : Nat} {w : World} (h : PolS lo hi c S c0 c1 c2 c3 P w) (he : c.e1 ≤ 1099511627776) : c.Ok := by
  obtain ⟨ra, cap, b1, b2, _, _, _, _, _, ok, _⟩ := h
  have g1 := ok.span ⟨c.s1, c.e1, false, false, b1⟩ (by unfold Pz.l; simp)
  have g2 : c.has = true → _ := fun e => ok.span ⟨c.s2, c.e2, c.zero, c.tag, b2⟩ (by unfold Pz.l; rw [e]; simp)
  exact ⟨⟨g1.1, g1.2.1⟩, fun e => ⟨(g2 e).1, (g2 e).2.1⟩, ⟨g1.2.2.1, he⟩, fun e => (g2 e).2.2⟩
/-- the policer of a contract. -/
def pzOf (k p e wh b : Int) : Pz := ⟨p, e, wh, b + e, decide (2 ≤ k ∧ k ≤ 4), decide (3 ≤ k), decide (k = 4), decide (k = 7)⟩
theorem pz_ok {k p e wh b l : Int} (h : rightZ k p e wh b l = 0) : (pzOf k p e wh b).Ok := by
  obtain ⟨⟨p0, p1, e0, e1⟩, hF⟩ := rightZ_zero.1 h
  refine ⟨⟨p0, p1⟩, fun hh => ?_, ⟨e0, e1⟩, fun hh => ?_⟩
  · have hk := of_decide_eq_true hh
    show 1 ≤ wh ∧ wh ≤ _
    omega
  · have hk := of_decide_eq_true hh
    show 0 ≤ b + e ∧ b + e ≤ _
    omega
theorem PolS.below {lo hi : Nat} {c : Pz} {S : S4} {c0 c1 c2 c3 : Int} {P : Nat} {w w' : World} (h : PolS lo hi c S c0 c1 c2 c3 P w) (hb : Below w.heap.size w w') : PolS lo hi c S c0 c1 c2 c3 P w' := by
  obtain ⟨ra, cap, b1, b2, hn, h1, h2, h3, h4, ok, hP⟩ := h
  exact ⟨ra, cap, b1, b2, hn, h1, h2, h3, h4, ok, hP.below hb⟩
/-- what turns only outside of it leaves it. -/
theorem PolS.other {s : Nat → Prop} {lo hi : Nat} {c : Pz} {S : S4} {c0 c1 c2 c3 : Int} {P : Nat} {w w' : World} (h : PolS lo hi c S c0 c1 c2 c3 P w) (hc : ChgL s w w') (hd : ∀ k, s k → k < lo ∨ hi ≤ k) : PolS lo hi c S c0 c1 c2 c3 P w' := by
  obtain ⟨ra, cap, b1, b2, hn, h1, h2, h3, h4, ok, hP⟩ := h
  have key : ∀ k, lo ≤ k ∧ k < hi → k < w.heap.size → w'.heap[k]? = w.heap[k]? := fun k hk hl => hc.block k hl (fun e => by have := hd k e; omega)
  refine ⟨ra, cap, b1, b2, hn, h1, h2, h3, h4, ok, ⟨(key P h1 hP.lt).trans hP.row, fun i r hr => ?_, Nat.lt_of_lt_of_le hP.rlt hc.size, fun r hr => ?_⟩⟩
  · have g := hP.rules i r hr
    have hk := key ra h2 hP.rlt
    exact ⟨(World.cell?_of_block hk).trans g.c0, (World.cell?_of_block hk).trans g.c1, (World.cell?_of_block hk).trans g.c2, (World.cell?_of_block hk).trans g.c3, (World.cell?_of_block hk).trans g.c4⟩
  · have g := hP.bucks r hr
    refine (key r.b ?_ g.lt).trans g
    rcases Pz.mem hr with rfl | ⟨hh, rfl⟩
    · exact h3
    · exact h4 hh
theorem take_S {lo hi : Nat} {c : Pz} {S : S4} {c0 c1 c2 c3 : Int} {P : Nat} (t clp : Int) (z : Bool) (hz : (clp == 0) = z) (w : World) (h : PolS lo hi c S c0 c1 c2 c3 P w) (hM : S.Bd 2305843009213693952) (b0 : 0 ≤ c0 ∧ c0 ≤ 1000000) (b1 : 0 ≤ c1 ∧ c1 ≤ 1000000) (b2 : 0 ≤ c2 ∧ c2 ≤ 1000000) (b3 : 0 ≤ c3 ∧ c3 ≤ 1000000) :
    Calls Tryz.prog 15 #[.pointer (some ⟨P, 0, none⟩), .int .i64 t, .int .i64 clp] w fun e w' => e = .returned (.int .i64 (c.last S t z)) ∧ PolS lo hi c (c.nxt S t z) (c0 + 1) (c1 + hit (c.last S t z) 1) (c2 + hit (c.last S t z) 2) (c3 + hit (c.last S t z) 3) P w' ∧ ChgL (fun k => lo ≤ k ∧ k < hi) w w' := by
  obtain ⟨ra, cap, d1, d2, hn, h1, h2, h3, h4, ok, hP⟩ := h
  refine (ptake_any t clp z hz w ok hP (Pz.bd hM d1 d2) b0 b1 b2 b3).mono ?_
  rintro e w' ⟨rfl, hA, hC⟩
  have hl : lastZ (c.l d1 d2) (S.st d1 d2) t z c.al = c.last S t z := by unfold lastZ; rw [verd_eq c S hn]; rfl
  rw [hl] at hA ⊢
  refine ⟨rfl, ⟨ra, cap, d1, d2, hn, h1, h2, h3, h4, ok, hA.congr ?_⟩, hC.mono ?_⟩
  · intro r hr
    unfold nextS
    rw [verd_eq c S hn]
    have g := nxt_eq c S hn t z
    rcases Pz.mem hr with rfl | ⟨hh, rfl⟩
    · rw [st_one]; exact g.1
    · rw [st_two _ hn]; exact g.2 hh
  · rintro k (rfl | ⟨r, hr, rfl⟩)
    · exact h1
    · rcases Pz.mem hr with rfl | ⟨hh, rfl⟩
      · exact h3
      · exact h4 hh
theorem new_S (k p e wh b l : Int) (w : World) (h : rightZ k p e wh b l = 0) :
    Calls Tryz.prog 13 #[.agg #[.int .i64 k, .int .i64 p, .int .i64 e, .int .i64 wh, .int .i64 b, .int .i64 l]] w fun en w' => ∃ P, en = .returned (.tuple #[.pointer (some ⟨P, 0, none⟩), .int .i64 0]) ∧
      PolS w.heap.size w'.heap.size (pzOf k p e wh b) S4.zero 0 0 0 0 P w' ∧ Below w.heap.size w w' := by
  have hF := rightZ_zero.1 h
  obtain ⟨⟨p0, p1, e0, e1⟩, hF⟩ := hF
  by_cases hk : 2 ≤ k ∧ k ≤ 4
  · refine (newP_two k p e wh b l (b + e) (decide (3 ≤ k)) (decide (k = 4)) w h hk rfl rfl rfl (by rw [decide_eq_false_iff_not]; omega) p0 p1 e0 e1 (by omega) (by omega) (by omega) (by omega)).mono ?_
    rintro en w' ⟨P, ra, cap, b1, b2, rfl, ok, hA, g1, g2, g3, g4, hB⟩
    have hh : decide (2 ≤ k ∧ k ≤ 4) = true := decide_eq_true hk
    have ha : decide (k = 7) = false := by rw [decide_eq_false_iff_not]; omega
    have hl : (pzOf k p e wh b).l b1 b2 = [⟨p, e, false, false, b1⟩, ⟨wh, b + e, decide (3 ≤ k), decide (k = 4), b2⟩] := by
      unfold Pz.l pzOf; rw [hh]; rfl
    have hz : ∀ x, S4.zero.st b1 b2 x = (0, false) := fun x => by unfold S4.st S4.zero; split <;> rfl
    refine ⟨P, rfl, ⟨ra, cap, b1, b2, ?_, ⟨g1, hA.lt⟩, ⟨g4, hA.rlt⟩, ⟨g2, (hA.bucks ⟨p, e, false, false, b1⟩ (by simp)).lt⟩, fun _ => ⟨g3, (hA.bucks ⟨wh, b + e, decide (3 ≤ k), decide (k = 4), b2⟩ (by simp)).lt⟩, ?_, ?_⟩, hB⟩
    · intro hb
      have := ok.inj ⟨p, e, false, false, b1⟩ (by simp) ⟨wh, b + e, decide (3 ≤ k), decide (k = 4), b2⟩ (by simp) hb
      have hd := ok.nodup
      rw [this] at hd
      simp at hd
    · rw [hl]; exact ok
    · rw [hl]
      have : (pzOf k p e wh b).al = false := ha
      rw [this]
      exact hA.congr (fun r _ => (hz r.b).symm)
  · refine (newP_one k p e wh b l (decide (k = 7)) w h hk (by rw [h]; simp) p0 p1 e0 e1).mono ?_
    rintro en w' ⟨P, ra, cap, b1, rfl, ok, hA, g1, g2, g4, hB⟩
    have hh : decide (2 ≤ k ∧ k ≤ 4) = false := decide_eq_false hk
    have hl : (pzOf k p e wh b).l b1 (b1 + 1) = [⟨p, e, false, false, b1⟩] := by
      unfold Pz.l pzOf; rw [hh]; rfl
    have hz : ∀ x, S4.zero.st b1 (b1 + 1) x = (0, false) := fun x => by unfold S4.st S4.zero; split <;> rfl
    refine ⟨P, rfl, ⟨ra, cap, b1, b1 + 1, by omega, ⟨g1, hA.lt⟩, ⟨g4, hA.rlt⟩, ⟨g2, (hA.bucks ⟨p, e, false, false, b1⟩ (by simp)).lt⟩, fun e => absurd (hh.symm.trans e) (by simp), ?_, ?_⟩, hB⟩
    · rw [hl]; exact ok
    · rw [hl]
      exact hA.congr (fun r _ => (hz r.b).symm)
end Go.Proofs.YtaoagbnhomjkpaaGreat
