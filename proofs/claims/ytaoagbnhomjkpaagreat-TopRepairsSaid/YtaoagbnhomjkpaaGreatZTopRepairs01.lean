import Derived.Test.YtaoagbnhomjkpaaGreatZTopRepairs00
/- The walk of the law TopRepairs. -/
namespace Go.Proofs.YtaoagbnhomjkpaaGreat
set_option linter.unusedVariables false
set_option linter.unusedSimpArgs false
open Go.RowKit
set_option maxRecDepth 100000
set_option maxHeartbeats 4000000
theorem arrive_idleH (x1 x2 lo hi Q : Nat) (cz : Pz) (S : S4) (c0 c1 c2 c3 rr rd : Int) (rc : Bool) (now sp id pa ta dr t : Int) (zs : List Int) (F sy : Bool) (bb cc : Nat) (w : World) (h : Pln1H x1 x2 lo hi Q cz S c0 c1 c2 c3 rr rd rc now sp id pa ta dr w) (t0 : now ≤ t) (t1 : t ≤ 1152921504606846976)
    (hz : BytesAt w (some ⟨bb, 0, none⟩) 53 zs) (hc1 : 53 ≤ cc) (hc2 : cc ≤ 9223372036854775807) (hout : bb < lo ∨ hi ≤ bb) (br : 0 ≤ rr ∧ rr ≤ 1000000) (bq : 0 ≤ rd ∧ rd ≤ 1000000) (ps : List Int) (hd : Told rc zs 0 0 0 0 0 ps F sy) (hlp : Hid (ps.length = 48)) (bi : 0 ≤ id ∧ id ≤ 1000000) :
    Calls Tryz.prog 11 #[.pointer (some ⟨Q, 0, none⟩), .int .i64 t, .int .i64 0, .slice (some ⟨bb, 0, none⟩) 53 cc] w fun e w' => e = .returned (.tuple #[.slice none 0 0, .int .i64 0]) ∧ Pln1H x1 x2 lo hi Q cz S c0 c1 c2 c3 (rr + oneIf F) rd sy t sp (id + 1) pa ta dr w' ∧ ChgL (fun j => (lo ≤ j ∧ j < hi) ∧ Out x1 x2 j) w w' := by
  obtain ⟨N, T, W, cm, L, cap, K, y, A, a, b, pl, ph, hP, hx⟩ := h
  have hmv := hP.mv
  exact (arrive_idle lo hi Q N T W cm L cap K y A a b pl ph cz S c0 c1 c2 c3 rr rd rc now sp id pa ta dr t zs F sy bb cc w hP t0 t1 hz hc1 hc2 hout br bq ps hd hlp bi).mono fun _ _ ⟨h1, h2, h3⟩ => ⟨h1, ⟨N, T, W, cm, L, cap, K, y, A, a, b, pl, ph, h2, hx⟩, h3.mono (fun j hj => ⟨hmv j hj, hx j (.inl hj)⟩)⟩
theorem arrive_badH (x1 x2 lo hi Q : Nat) (cz : Pz) (S : S4) (c0 c1 c2 c3 rr rd : Int) (rc : Bool) (now sp id pa ta dr t : Int) (zs : List Int) (F sy : Bool) (bb cc : Nat) (w : World) (h : Pln1H x1 x2 lo hi Q cz S c0 c1 c2 c3 rr rd rc now sp id pa ta dr w) (t0 : now ≤ t) (t1 : t ≤ 1152921504606846976)
    (hz : BytesAt w (some ⟨bb, 0, none⟩) 53 zs) (hc1 : 53 ≤ cc) (hc2 : cc ≤ 9223372036854775807) (hout : bb < lo ∨ hi ≤ bb) (br : 0 ≤ rr ∧ rr ≤ 1000000) (bq : 0 ≤ rd ∧ rd ≤ 1000000) (hd : drops rc (zs.take 5) = true) (hf : fixes rc (zs.take 5) = F) (hs : (synd (zs.take 5) != 0) = sy) (bi : 0 ≤ sp ∧ sp ≤ 1000000) :
    Calls Tryz.prog 11 #[.pointer (some ⟨Q, 0, none⟩), .int .i64 t, .int .i64 0, .slice (some ⟨bb, 0, none⟩) 53 cc] w fun e w' => e = .returned (.tuple #[.slice none 0 0, .int .i64 4]) ∧ Pln1H x1 x2 lo hi Q cz S c0 c1 c2 c3 (rr + oneIf F) (rd + 1) sy t (sp + 1) id pa ta dr w' ∧ ChgL (fun j => (lo ≤ j ∧ j < hi) ∧ Out x1 x2 j) w w' := by
  obtain ⟨N, T, W, cm, L, cap, K, y, A, a, b, pl, ph, hP, hx⟩ := h
  have hmv := hP.mv
  exact (arrive_bad lo hi Q N T W cm L cap K y A a b pl ph cz S c0 c1 c2 c3 rr rd rc now sp id pa ta dr t zs F sy bb cc w hP t0 t1 hz hc1 hc2 hout br bq hd hf hs bi).mono fun _ _ ⟨h1, h2, h3⟩ => ⟨h1, ⟨N, T, W, cm, L, cap, K, y, A, a, b, pl, ph, h2, hx⟩, h3.mono (fun j hj => ⟨hmv j hj, hx j (.inl hj)⟩)⟩
theorem PlAt.bk {lo hi Q N T W cm L cap K y A a b pl ph : Nat} {cz : Pz} {S : S4} {c0 c1 c2 c3 : Int} {rr rd : Int} {rc : Bool} {now sp id pa ta dr : Int} {w : World} (h : PlAt lo hi Q N T W cm L cap K y A a b pl ph cz S c0 c1 c2 c3 rr rd rc now sp id pa ta dr w) (j : Nat) (hj : Bk Q K A a b pl ph T W L y j) : lo ≤ j ∧ j < hi := by
  have hm := h.mv
  obtain ⟨hQ, hL, hK, hT, hW, hy, hA, hN, b1, b2, b3, b4, b5, b6, b7, b8, b9, rest⟩ := h
  clear rest
  rcases hj with hj | rfl | rfl | rfl | rfl
  · exact hm j hj
  · exact b2
  · exact b3
  · exact b4
  · exact b6
theorem Pln1H.other3 {s : Nat → Prop} {x1 x2 lo hi Q : Nat} {cz : Pz} {S : S4} {c0 c1 c2 c3 rr rd : Int} {rc : Bool} {now sp id pa ta dr : Int} {w w' : World} (h : Pln1H x1 x2 lo hi Q cz S c0 c1 c2 c3 rr rd rc now sp id pa ta dr w) (hc : ChgL s w w') (hd : ∀ j, s j → j < lo ∨ (x1 ≤ j ∧ j < x2) ∨ hi ≤ j) : Pln1H x1 x2 lo hi Q cz S c0 c1 c2 c3 rr rd rc now sp id pa ta dr w' := by
  obtain ⟨N, T, W, cm, L, cap, K, y, A, a, b, pl, ph, hP, hx⟩ := h
  exact ⟨N, T, W, cm, L, cap, K, y, A, a, b, pl, ph, hP.other hc (fun j e1 e2 => by have h1 := hd j e1; have h2 := hx j e2; have h3 := hP.bk j e2; clear hP hx; unfold Out at h2; omega), hx⟩
theorem undB36 : Tryz.prog.underlying 36 = some (.slice 5) := by kernel_rfl
theorem undB5 : Tryz.prog.underlying 5 = some (.int .u8) := by kernel_rfl
theorem undStr : Tryz.prog.underlying 9 = some .string := by kernel_rfl
theorem str_of {w : World} {b cap : Nat} {zs : List Int} (h : BytesAt w (some ⟨b, 0, none⟩) 53 zs) : (convert 36 9 (.slice (some ⟨b, 0, none⟩) 53 cap)).run Tryz.prog w = .ok (.string (strOfNums zs)) w := by
  refine run_convert_bytes_arg w 36 5 undB36 undB5 b 0 53 cap zs h.length (fun i hi => ?_) 9 undStr
  obtain ⟨b', off, e, hlt, hc⟩ := h.cells (by omega)
  injection e with e; injection e with e1 e2
  subst e1 e2
  rw [hc i hi]
  simp [List.getD]
theorem topRepairs_bad (k p e wh b l : Int) (Y : Array Value) (ps : List Int) (β ω : Int) (w : World) (hY : Hid (Y = (u8s ps).toArray)) (hR : rightZ k p e wh b l ≠ 0) :
    Calls Tryz.prog 3 #[.agg #[.int .i64 k, .int .i64 p, .int .i64 e, .int .i64 wh, .int .i64 b, .int .i64 l], .agg Y, .int .u8 β, .int .u8 ω] w fun e w' => e = .returned (.bool true) ∧ Below w.heap.size w w' := by
  rcases right_bad hR with hr | hr
  all_goals
    have HR := Lib.hid hr
    clear hr
    have BX0 := Box6.new k p e wh b l 23 w
    have B0 : Below w.heap.size w ((w.alloc (.cells #[.int .i64 k, .int .i64 p, .int .i64 e, .int .i64 wh, .int .i64 b, .int .i64 l] 23)).alloc (.cells Y 24)) := below2 w _ _
    have BX := BX0.below ((Below.refl _ _).alloc (Nat.le_refl _) (.cells Y 24))
    go_enter Tryz.func3, Tryz.ntmps3
    go_wp2_with (first
      | (go_at_call 6; (with_reducible refine (alive_any _).mono ?_); rintro en wa ⟨rfl, ba⟩; obtain ⟨q0, q1, q2, q3, q4, q5⟩ := BX.below ba; have B1 := B0.trans (ba.mono B0.size))
      | (go_at_call 7; (with_reducible refine (cright_any k p e wh b l _).mono ?_); rw [HR.out]; rintro en wr ⟨rfl, br⟩; have B2 := B1.trans (br.mono B1.size)))
    go_ret
    exact ⟨rfl, B2⟩
theorem Pln0.belowR {lo hi Q : Nat} {r : Int} {w w' : World} (h : Pln0 lo hi Q r w) (hb : Below w.heap.size w w') : Pln0 lo hi Q r w' := by
  obtain ⟨N, T, W, cm, L, cap, K, gp, a, b, h1, h2, h3, h4, h5, h6, rest⟩ := h
  exact ⟨N, T, W, cm, L, cap, K, gp, a, b, h1.below hb, cell_keep hb h2, h3.below hb, h4.below hb, h5.below hb, h6.below hb, rest⟩
theorem Pln0.other {s : Nat → Prop} {lo hi Q : Nat} {r : Int} {w w' : World} (h : Pln0 lo hi Q r w) (hc : ChgL s w w') (hd : ∀ k, s k → k < lo ∨ hi ≤ k) : Pln0 lo hi Q r w' := by
  obtain ⟨N, T, W, cm, L, cap, K, gp, a, b, h1, h2, h3, h4, h5, h6, bQ, bT, bW, bL, bK, ba, bab, bb, rest⟩ := h
  have q2 : ∀ {j : Nat} {o : Obj}, (lo ≤ j ∧ j < hi) → w.heap[j]? = some o → w'.heap[j]? = some o := fun {j} {o} hb hv =>
    (hc.block j (Array.getElem?_eq_some_iff.1 hv).1 (fun e => by have := hd j e; clear rest; omega)).trans hv
  exact ⟨N, T, W, cm, L, cap, K, gp, a, b, q2 bQ h1, (World.cell?_of_block (w := w) (hc.block L (World.block_lt_of_cell? w _ h2) (fun e => by have := hd L e; clear rest; omega))).trans h2, q2 bK h3, q2 bT h4, q2 bW h5, h6.other hc (fun j e => by have := hd j e; clear rest; omega), bQ, bT, bW, bL, bK, ba, bab, bb, rest⟩
def KY (a0 a1 a2 : Nat) (w : World) : Prop := Cs8 a0 0 (.int .i64 0) a0 1 (.int .i64 0) a0 2 (.int .i64 40) a1 0 (.int .i64 1) a1 1 (.int .i64 0) a1 2 (.int .i64 50) a2 0 (.int .i64 1152921504606846976) a2 1 (.int .i64 1152921504606846976) w
theorem KY.below {a0 a1 a2 : Nat} {w w' : World} (h : KY a0 a1 a2 w) (hb : Below w.heap.size w w') : KY a0 a1 a2 w' := Cs8.below h hb
theorem keys_new (w : World) : KY w.heap.size (w.heap.size + 1) (w.heap.size + 1 + 1) (((w.alloc (.cells #[.int .i64 0, .int .i64 0, .int .i64 40] 29)).alloc (.cells #[.int .i64 1, .int .i64 0, .int .i64 50] 29)).alloc (.cells #[.int .i64 1152921504606846976, .int .i64 1152921504606846976] 3)) := by
  have s1 : (w.alloc (.cells #[.int .i64 0, .int .i64 0, .int .i64 40] 29)).heap.size = w.heap.size + 1 := by simp
  have s2 : ((w.alloc (.cells #[.int .i64 0, .int .i64 0, .int .i64 40] 29)).alloc (.cells #[.int .i64 1, .int .i64 0, .int .i64 50] 29)).heap.size = w.heap.size + 1 + 1 := by simp
  refine ⟨?_, ?_, ?_, ?_, ?_, ?_, ?_, ?_, trivial⟩
  · exact cell_under (by omega) (cell_under (by omega) (cell_top rfl rfl))
  · exact cell_under (by omega) (cell_under (by omega) (cell_top rfl rfl))
  · exact cell_under (by omega) (cell_under (by omega) (cell_top rfl rfl))
  · exact cell_under (by omega) (cell_top s1.symm rfl)
  · exact cell_under (by omega) (cell_top s1.symm rfl)
  · exact cell_under (by omega) (cell_top s1.symm rfl)
  · exact cell_top s2.symm rfl
  · exact cell_top s2.symm rfl
theorem cell_chg2 {s : Nat → Prop} {w w' : World} {b o : Nat} {v : Value} (hc : ChgL s w w') (hb : ¬ s b) (hv : w.cell? ⟨b, o, none⟩ = some v) : w'.cell? ⟨b, o, none⟩ = some v :=
  (World.cell?_of_block (w := w) (hc.block _ (World.block_lt_of_cell? w _ hv) hb)).trans hv
theorem row_chg2 {s : Nat → Prop} {w w' : World} {lo b cap : Nat} {zs : List Int} (h : CellRow w lo b cap zs) (hc : ChgL s w w') (hb : ¬ s b) : CellRow w' lo b cap zs :=
  ⟨⟨h.bytes.length, h.bytes.most, h.bytes.byte, fun hp => by
    obtain ⟨b', off, e, hlt, hcl⟩ := h.bytes.cells hp
    injection e with e; injection e with e1 e2
    subst e1 e2
    exact ⟨_, _, rfl, Nat.lt_of_lt_of_le hlt hc.size, fun k hk => cell_chg2 hc hb (hcl k hk)⟩⟩, h.cap1, h.cap2, h.low⟩
theorem SentAt.other {s : Nat → Prop} {w w' : World} {lo : Nat} {v l : Int} {ps : List Int} {r : Value} (h : SentAt w lo v l ps r) (hc : ChgL s w w') (hd : ∀ j, s j → j < lo) : SentAt w' lo v l ps r := by
  rcases h with h | ⟨h1, o, b, cap, h2, h3, h4, h5, h6⟩
  · exact .inl h
  · have no : ¬ s o := fun e => by have := hd o e; omega
    have nb : ¬ s b := fun e => by have := hd b e; have := h5.low; omega
    exact .inr ⟨h1, o, b, cap, h2, cell_chg2 hc no h3, cell_chg2 hc no h4, row_chg2 h5 hc nb, h6⟩
/-- of two planes that judge alike: both send nothing, or both the same. -/
theorem sent_both {w : World} {lo1 lo2 : Nat} {v l : Int} {ps : List Int} {r1 r2 : Value} (h1 : SentAt w lo1 v l ps r1) (h2 : SentAt w lo2 v l ps r2) :
    (Value.slice none 0 0 = r1 ∧ Value.slice none 0 0 = r2) ∨ ∃ s o1 b1 k1 o2 b2 k2, Value.slice (some ⟨o1, 0, none⟩) 1 1 = r1 ∧ Value.slice (some ⟨o2, 0, none⟩) 1 1 = r2 ∧ w.cell? ⟨o1, 1, none⟩ = some (.slice (some ⟨b1, 0, none⟩) 53 k1) ∧ w.cell? ⟨o2, 1, none⟩ = some (.slice (some ⟨b2, 0, none⟩) 53 k2) ∧ (∀ n, (convert 36 9 (.slice (some ⟨b1, 0, none⟩) 53 k1)).run Tryz.prog (w.drewN n) = .ok (.string s) (w.drewN n)) ∧ (∀ n, (convert 36 9 (.slice (some ⟨b2, 0, none⟩) 53 k2)).run Tryz.prog (w.drewN n) = .ok (.string s) (w.drewN n)) := by
  rcases h1 with ⟨e1, f1⟩ | ⟨e1, o1, b1, k1, f1, g1, j1, R1, _⟩
  · rcases h2 with ⟨e2, f2⟩ | ⟨e2, _⟩
    · exact .inl ⟨f1.symm, f2.symm⟩
    · exact absurd e1 e2
  · rcases h2 with ⟨e2, _⟩ | ⟨e2, o2, b2, k2, f2, g2, j2, R2, _⟩
    · exact absurd e2 e1
    · exact .inr ⟨_, o1, b1, k1, o2, b2, k2, f1.symm, f2.symm, j1, j2, fun n => str_of (R1.bytes.below (below_drewN (Below.refl _ _) n)), fun n => str_of (R2.bytes.below (below_drewN (Below.refl _ _) n))⟩
/-- no cell of the block is frozen. -/
def FreeAt (w : World) (b : Nat) : Prop := ∀ o, w.frozen? ⟨b, o, none⟩ = false
theorem FreeAt.chg {s : Nat → Prop} {w w' : World} {b : Nat} (h : FreeAt w b) (hc : ChgL s w w') (hb : ¬ s b) (hl : b < w.heap.size) : FreeAt w' b := fun o =>
  (World.frozen?_of_block (w := w) (hc.block b hl hb)).trans (h o)
theorem FreeAt.below {w w' : World} {b : Nat} (h : FreeAt w b) (hb : Below w.heap.size w w') (hl : b < w.heap.size) : FreeAt w' b := fun o =>
  (hb.frozen (p := ⟨b, o, none⟩) hl).trans (h o)
theorem FreeAt.set {w : World} {b : Nat} {p : Addr} {v : Value} (h : FreeAt w b) : FreeAt (w.setCell p v).drew b := fun o => frozen_drew (frozen_setCell (h o))
theorem index9 (x y z : Int) (w : World) : (Instr.index 43 (.agg #[.int .i64 0, .int .i64 1, .int .i64 1, .int .i64 0, .int .i64 0, .int .i64 0, .int .i64 x, .int .i64 y, .int .i64 z]) (.int .i64 1)).run Tryz.prog w = .ok (.int .i64 1) w := by kernel_rfl
theorem topRepairs_go (k p e wh b l : Int) (Y : Array Value) (ps : List Int) (β ω : Int) (w : World) (hY : Hid (Y = (u8s ps).toArray)) (hlp : Hid (ps.length = 48)) (hbp : Hid (allB ps)) (hβ : 0 ≤ β ∧ β < 256) (hω : 0 ≤ ω ∧ ω < 256) (hR : rightZ k p e wh b l = 0) :
    Calls Tryz.prog 3 #[.agg #[.int .i64 k, .int .i64 p, .int .i64 e, .int .i64 wh, .int .i64 b, .int .i64 l], .agg Y, .int .u8 β, .int .u8 ω] w fun e w' => e = .returned (.bool true) ∧ Below w.heap.size w w' := by
  have hsy : Y.size = 48 := sizeP hY hlp.out
  have ok := pz_ok hR
  obtain ⟨c, hc⟩ : ∃ c, c = pzOf k p e wh b := ⟨_, rfl⟩
  have HC := Lib.hid hc
  have HR := Lib.hid hR
  have hn := needZ_le k p e wh b l
  have hn1 : needZ k p e wh b l ≤ 1152921504606846976 := by omega
  have hn0 := hn.1
  have r0 : rightH false 0 0 40 0 0 = true := by kernel_rfl
  have ri : rightH false 0 0 0 0 0 = true := by kernel_rfl
  clear hc hn
  obtain ⟨i, hi⟩ : ∃ i : Nat, β % 40 = (i : Int) := ⟨(β % 40).toNat, by omega⟩
  obtain ⟨κ, hκ⟩ : ∃ κ : Nat, ω % 40 = (κ : Int) := ⟨(ω % 40).toNat, by omega⟩
  have i40 : i < 40 := by omega
  have κ40 : κ < 40 := by omega
  have BX0 := Box6.new k p e wh b l 23 w
  have B0 : Below w.heap.size w ((w.alloc (.cells #[.int .i64 k, .int .i64 p, .int .i64 e, .int .i64 wh, .int .i64 b, .int .i64 l] 23)).alloc (.cells Y 24)) := below2 w _ _
  have BX := BX0.below ((Below.refl _ _).alloc (Nat.le_refl _) (.cells Y 24))
  have Y0 : BytesAt ((w.alloc (.cells #[.int .i64 k, .int .i64 p, .int .i64 e, .int .i64 wh, .int .i64 b, .int .i64 l] 23)).alloc (.cells Y 24)) (some ⟨w.heap.size + 1, 0, none⟩) 48 ps := bytes_block hY (by simp) hlp.out hbp.out
  go_enter Tryz.func3, Tryz.ntmps3
  go_wp2_with (first
    | (go_at_call 6; (with_reducible refine (alive_any _).mono ?_); rintro en wa ⟨rfl, ba⟩; have BXa := BX.below ba; obtain ⟨q0, q1, q2, q3, q4, q5⟩ := id BXa; have B1 := B0.trans (ba.mono B0.size); have Ya := Y0.below ba)
    | (go_at_call 7; (with_reducible refine (cright_any k p e wh b l _).mono ?_); rw [HR.out]; rintro en wr ⟨rfl, br⟩; have B2 := B1.trans (br.mono B1.size); have BXr := BXa.below br; have Yr := Ya.below br; clear q0 q1 q2 q3 q4 q5; have K0 := keys_new wr; have BV := below3 wr (.cells #[.int .i64 0, .int .i64 0, .int .i64 40] 29) (.cells #[.int .i64 1, .int .i64 0, .int .i64 50] 29) (.cells #[.int .i64 1152921504606846976, .int .i64 1152921504606846976] 3); have BXv := BXr.below BV; have Yv := Yr.below BV; obtain ⟨V, hV⟩ : ∃ V, V = ((wr.alloc (.cells #[.int .i64 0, .int .i64 0, .int .i64 40] 29)).alloc (.cells #[.int .i64 1, .int .i64 0, .int .i64 50] 29)).alloc (.cells #[.int .i64 1152921504606846976, .int .i64 1152921504606846976] 3) := ⟨_, rfl⟩; rw [← hV] at K0 BV BXv Yv; have r1c := K0.2.2.2.2.2.2.1; have r2c := K0.2.2.2.2.2.2.2.1; have B3 := B2.trans (BV.mono B2.size))
    | (go_at_call 8; (with_reducible refine (newP_any (wr.heap.size + 1 + 1) 1152921504606846976 _ (cell_keep b1 r1c) (cell_keep b1 r2c) (by omega) (by omega)).mono ?_); rintro en w2 ⟨Qq, rfl, H2, b2⟩; have z2 := b2.size; have H1b := H1.belowR b2; have Bv2 := b1.trans (b2.mono b1.size); obtain ⟨m0, m1, m2, m3, m4, m5, _⟩ := id (K0.below Bv2); obtain ⟨q0, q1, q2, q3, q4, q5⟩ := BXv.below Bv2)
    | (go_at_call 8; rw [← hV]; (with_reducible refine (newP_any (wr.heap.size + 1 + 1) 1152921504606846976 _ r1c r2c (by omega) (by omega)).mono ?_); rintro en w1 ⟨Qp, rfl, H1, b1⟩; have z1 := b1.size)
    | (go_at_call 9; (with_reducible refine (open_okH _ _ Qq 1152921504606846976 k p e wh b l _ H2b z3 (by omega) (by omega) HR.out hn1 hn0).mono ?_); rw [← HC.out]; rintro en w4 ⟨rfl, H4, c4⟩; have z4 := c4.size; have H3b := H3.other c4 (fun j hj => hj); have Bv4 := Bv3.trans (chg_in c4 z1 Bv3.size); have Y4 := Yv.below Bv4; clear m0 m1 m2 m3 m4 m5 q0 q1 q2 q3 q4 q5)
    | (go_at_call 9; (with_reducible refine (open_okH _ _ Qp 1152921504606846976 k p e wh b l _ H1b z2 (by omega) (by omega) HR.out hn1 hn0).mono ?_); rw [← HC.out]; rintro en w3 ⟨rfl, H3, c3⟩; have z3 := c3.size; have H2b := H2.other c3 (fun j hj => by omega); have Bv3 := Bv2.trans (chg_in c3 (Nat.le_refl _) Bv2.size); clear m0 m1 m2 m3 m4 m5 q0 q1 q2 q3 q4 q5; obtain ⟨m0, m1, m2, m3, m4, m5, _⟩ := id (K0.below Bv3); obtain ⟨q0, q1, q2, q3, q4, q5⟩ := BXv.below Bv3)
    | ((with_reducible refine wpList_load48 Y ?_ ?_); (focus (exact ⟨_, _, rfl, hsy, range_of Y4 hY⟩)))
    | (go_at_call 10; (with_reducible refine (bytes_any 40 0 0 (wIn 0) ps Y _ hY hlp hbp r0 (hwIn 0)).mono ?_); rintro en w5 ⟨bb, cb, rfl, hc, g5⟩; have z5 := g5.size; have Hbb := hc.bytes.below ((Below.refl w5.heap.size w5).alloc (Nat.le_refl _) (.cells #[] 5)); have hba : w5.heap.size ≤ (w5.alloc (.cells #[] 5)).heap.size := (by simp))
    | ((with_reducible refine wpList_append_b2 rfl _ _ rfl (own_empty w5) rfl Hbb rfl (fun h => nomatch h) (by omega) hba ?_); intro v6 w6 o6 b6; obtain ⟨ad, cd, rfl, hd1, hd2, HD, FD, _⟩ := o6.at (by omega); obtain ⟨gd, off, rfl, hgl, hgc⟩ := HD.cells (by omega); obtain ⟨gl, rfl, gu, gf⟩ := FD gd _ rfl))
  rw [hi, hκ]
  have HD : BytesAt w6 (some ⟨gd, 0, none⟩) 53 (cellZ (wIn 0) ps) := HD
  obtain ⟨q, hq⟩ : ∃ q, i / 8 = q := ⟨_, rfl⟩
  obtain ⟨m, hm⟩ : ∃ m, i % 8 = m := ⟨_, rfl⟩
  have hq1 : q < 53 := by omega
  have hm1 : m < 8 := by omega
  have iq : (i : Int) / 8 = (q : Int) := by omega
  have im : (i : Int) % 8 = (m : Int) := by omega
  have hsh := shr128 m hm1
  have hyb := HD.byte q
  obtain ⟨zq, hzq⟩ : ∃ zq, (cellZ (wIn 0) ps)[q]?.getD 0 = zq := ⟨_, rfl⟩
  rw [hzq] at hyb
  have hfl : flipZ (cellZ (wIn 0) ps) i = (cellZ (wIn 0) ps).set q (bits .xor .u8 zq (128 / 2 ^ m)) := by unfold flipZ; rw [hq, hm, hzq]
  have hcq : w6.cell? ⟨gd, q, none⟩ = some (.int .u8 zq) := by
    obtain ⟨b', off', e', _, hc'⟩ := HD.cells (by omega)
    injection e' with e'; injection e' with e1 e2; subst e1; subst e2
    have := hc' q hq1
    rw [Nat.zero_add, hzq] at this
    exact this
  have hfq : w6.frozen? ⟨gd, q, none⟩ = false := gf q
  have B56 : Below w5.heap.size w5 w6 := ((Below.refl _ _).alloc (Nat.le_refl _) _).trans b6
  have z6 := B56.size
  have B46 := g5.trans (B56.mono g5.size)
  have hcl := hc.low
  have hbl : bb < w5.heap.size := by
    obtain ⟨b', off', eb, hb', _⟩ := hc.bytes.cells (by omega)
    injection eb with eb; injection eb with e1 e2; omega
  refine region_tail_b 10 (by kernel_rfl) (by kernel_rfl) rfl ?_
  simp only [List.take_succ_cons, List.take_zero, List.drop_succ_cons, List.drop_zero]
  (repeat (go_big_quiet_step (fail)))
  refine wpQuiet_nil ?_
  have nbg : bb ≠ gd := by omega
  have B47 : Below w4.heap.size w4 ((w6.setCell ⟨gd, q, none⟩ (.int .u8 (bits .xor .u8 zq (128 / 2 ^ m)))).drew) := (B46.setCell (p := ⟨gd, q, none⟩) (by show w4.heap.size ≤ gd; omega) _).drew
  have H3c := H3b.below B47
  have H4c := H4.below B47
  have z7 : w4.heap.size ≤ ((w6.setCell ⟨gd, q, none⟩ (.int .u8 (bits .xor .u8 zq (128 / 2 ^ m)))).drew).heap.size := B47.size
  have R7 : CellRow ((w6.setCell ⟨gd, q, none⟩ (.int .u8 (bits .xor .u8 zq (128 / 2 ^ m)))).drew) w4.heap.size bb cb (cellZ (wIn 0) ps) := row_chg2 (s := fun j => j = gd) (hc.below B56) (ChgL.chg (((Chg.refl gd w6).setCell q _).drew) rfl) (fun e => nbg e)
  have D7b : BytesAt (w6.setCell ⟨gd, q, none⟩ (.int .u8 (bits .xor .u8 zq (128 / 2 ^ m)))) (some ⟨gd, 0, none⟩) 53 (flipZ (cellZ (wIn 0) ps) i) := by rw [hfl]; exact HD.set hq1 (xor8_bd (m := m) hyb.1 hyb.2).1 (xor8_bd (m := m) hyb.1 hyb.2).2
  have D7 : CellRow ((w6.setCell ⟨gd, q, none⟩ (.int .u8 (bits .xor .u8 zq (128 / 2 ^ m)))).drew) w5.heap.size gd cd (flipZ (cellZ (wIn 0) ps) i) := ⟨D7b.below (Below.refl _ _).drew, hd1, hd2, gl⟩
  have lgd : gd < ((w6.setCell ⟨gd, q, none⟩ (.int .u8 (bits .xor .u8 zq (128 / 2 ^ m)))).drew).heap.size := by show gd < (w6.setCell _ _).heap.size; simp; omega
  have zero : (0 : Int) ≤ 0 ∧ (0 : Int) ≤ 1000000 := by omega
  have hM : S4.zero.Bd 2305843009213693952 := by unfold S4.Bd S4.zero; decide
  have tin := told_in 0 (.inl rfl) ps false
  have tfl := told_flip ps i i40
  obtain ⟨v, hv⟩ : ∃ v, c.last S4.zero 5 true = v := ⟨_, rfl⟩
  have lbb : w3.heap.size ≤ bb := by omega
  have lgg : w4.heap.size ≤ gd := by omega
  have zh := Nat.le_trans z4 z7
  have F7 : FreeAt ((w6.setCell ⟨gd, q, none⟩ (.int .u8 (bits .xor .u8 zq (128 / 2 ^ m)))).drew) gd := FreeAt.set (fun o => gf o)
  clear D7b hfl HD o6 hgc FD B46 B56 b6 g5 hc Hbb hba hyb iq im hsh gf
  go_wp2_with (first
    | (go_at_call 11; (with_reducible refine (arrive_sentH w2.heap.size w3.heap.size w1.heap.size w4.heap.size Qq c S4.zero 0 0 0 0 0 0 false 0 0 0 0 0 0 5 0 (flipZ (cellZ (wIn 0) ps) i) ps true true gd cd _ H4d zh2 (by omega) (by omega) D8.bytes D8.cap1 D8.cap2 (.inr lgg) tfl (.inl rfl) hlp hbp true rfl hM zero zero zero zero zero zero zero zero zero v hv).mono ?_); rintro en w9 ⟨r2, rfl, hs2, H4e, c9⟩)
    | (go_at_call 11; (with_reducible refine (arrive_sentH w1.heap.size w2.heap.size V.heap.size w3.heap.size Qp c S4.zero 0 0 0 0 0 0 false 0 0 0 0 0 0 5 0 (cellZ (wIn 0) ps) ps false false bb cb _ H3c zh (by omega) (by omega) R7.bytes R7.cap1 R7.cap2 (.inr lbb) tin (.inl rfl) hlp hbp true rfl hM zero zero zero zero zero zero zero zero zero v hv).mono ?_); rintro en w8 ⟨r1, rfl, hs1, H3d, c8⟩; have z8 := c8.size; have H4d := H4c.other3 c8 (fun j hj => by have h1 := hj.1; have h2 := hj.2; clear hs1 H3d; unfold Out at h2; omega); have D8 := row_chg2 D7 c8 (fun e => by have h1 := e.1; omega); have zh2 := Nat.le_trans z7 z8))
  have hs1b := hs1.other c9 (fun j hj => by have h1 := hj.1; omega)
  have D9 := row_chg2 D8 c9 (fun e => by have h1 := e.1; omega)
  have H3e := H3d.other3 c9 (fun j hj => by have h1 := hj.1; have h2 := hj.2; clear hs1 hs2 hs1b H3d H4e; unfold Out at h2; omega)
  have z9 := c9.size
  have F8 := F7.chg c8 (fun e => by have h1 := e.1; omega) lgd
  have F9 := F8.chg c9 (fun e => by have h1 := e.1; omega) (by omega)
  have B49 : Below V.heap.size V w9 := (Bv4.trans (B47.mono Bv4.size)).trans ((c8.below (fun k hk => hk.1.1) (by omega)).trans (c9.below (fun k hk => by have h1 := hk.1.1; omega) (by omega)))
  have hlz : Hid (z48t.length = 48) := z48t_len
  have hbz : Hid (allB z48t) := z48t_B
  have BW9 : Below w.heap.size w w9 := B3.trans (B49.mono B3.size)
  have lV : V.heap.size ≤ gd := by omega
  have wV := B3.size
  have l3 : w3.heap.size ≤ gd := by omega
  have l3' : w3.heap.size ≤ w9.heap.size := by omega
  have lg9 : gd < w9.heap.size := by omega
  clear hs1 H3c H4c H4d H4e H4 H3 H3b c8 c9 D8 R7 D7 H3d F7 F8 Bv4 B47 B49 Bv3 Bv2 b1 b2 H1 H2 H1b H2b c3 c4 r1c r2c K0 hV BXv BXr BXa BX BX0 Y0 Ya Yr Yv Y4 BV B0 B1 B2 B3 ba br hcq hfq tin tfl
  obtain ⟨q2, hq2⟩ : ∃ q, κ / 8 = q := ⟨_, rfl⟩
  obtain ⟨m2, hm2⟩ : ∃ m, κ % 8 = m := ⟨_, rfl⟩
  have hq21 : q2 < 53 := by omega
  have hm21 : m2 < 8 := by omega
  have iq : (κ : Int) / 8 = (q2 : Int) := by omega
  have im : (κ : Int) % 8 = (m2 : Int) := by omega
  have hsh := shr128 m2 hm21
  have hyb := D9.bytes.byte q2
  obtain ⟨zz, hzz⟩ : ∃ zz, flipZ (cellZ (wIn 0) ps) i = zz := ⟨_, rfl⟩
  obtain ⟨zq2, hzq2⟩ : ∃ zq, zz[q2]?.getD 0 = zq := ⟨_, rfl⟩
  rw [hzz] at D9 hyb
  rw [hzq2] at hyb
  have hfl : flipZ zz κ = zz.set q2 (bits .xor .u8 zq2 (128 / 2 ^ m2)) := by unfold flipZ; rw [hq2, hm2, hzq2]
  rcases sent_both hs1b hs2 with ⟨rfl, rfl⟩ | ⟨s, o1, b1', k1, o2, b2', k2, rfl, rfl, j1, j2, sv1, sv2⟩
  all_goals
    clear hs2 hs1b
    go_quiet (fail)
    have D10 := D9.below (below_drewN (Below.refl _ _) nq)
    have F10 := F9.below (below_drewN (Below.refl _ _) nq) lg9
    have z10 : (w9.drewN nq).heap.size = w9.heap.size := size_drewN
    have B10 : Below w.heap.size w (w9.drewN nq) := below_drewN BW9 nq
    have H3f : Pln1H w1.heap.size w2.heap.size V.heap.size w3.heap.size Qp c (c.nxt S4.zero 5 true) 1 (hit v 1) (hit v 2) (hit v 3) 0 0 false 5 0 0 (hit v 1) (hit v 2) (hit v 3) (w9.drewN nq) := by simpa [oneIf] using H3e.below (below_drewN (Below.refl _ _) nq)
    by_cases hik : i = κ
    · have hne : decide ((i : Int) = (κ : Int)) = true := decide_eq_true (by omega)
      have tid := told_idle z48t false
      go_wp2_with (first
        | (go_at_call 10; (with_reducible refine (bytes_any 0 0 0 (wordH false 0 0 0 0 0) z48t _ _ zeros48 hlz hbz ri (Lib.hid rfl)).mono ?_); rintro en w11 ⟨bi, ci, rfl, hc11, g11⟩; have z11 := g11.size; have H3g := H3f.below g11; have lbi := hc11.low)
        | (go_at_call 11; (with_reducible refine (arrive_idleH w1.heap.size w2.heap.size V.heap.size w3.heap.size Qp c (c.nxt S4.zero 5 true) 1 (hit v 1) (hit v 2) (hit v 3) 0 0 false 5 0 0 (hit v 1) (hit v 2) (hit v 3) 6 (cellZ (wordH false 0 0 0 0 0) z48t) false false bi ci _ H3g (by omega) (by omega) hc11.bytes hc11.cap1 hc11.cap2 (.inr (by omega)) zero zero z48t tid hlz zero).mono ?_); rintro en w12 ⟨rfl, H3h, c12⟩; have z12 := c12.size))
      go_ret
      refine ⟨rfl, ?_⟩
      exact (B10.trans (g11.mono B10.size)).trans (c12.below (fun k hk => by have h1 := hk.1.1; omega) (by omega))
    · have hne : decide ((i : Int) = (κ : Int)) = false := decide_eq_false (by omega)
      have tid := told_idle z48t false
      go_wp2_with (first
        | (go_at_call 10; (with_reducible refine (bytes_any 0 0 0 (wordH false 0 0 0 0 0) z48t _ _ zeros48 hlz hbz ri (Lib.hid rfl)).mono ?_); rintro en w11 ⟨bi, ci, rfl, hc11, g11⟩; have z11 := g11.size; have H3g := H3f.below g11; have lbi := hc11.low)
        | (go_at_call 11; (with_reducible refine (arrive_idleH w1.heap.size w2.heap.size V.heap.size w3.heap.size Qp c (c.nxt S4.zero 5 true) 1 (hit v 1) (hit v 2) (hit v 3) 0 0 false 5 0 0 (hit v 1) (hit v 2) (hit v 3) 6 (cellZ (wordH false 0 0 0 0 0) z48t) false false bi ci _ H3g (by omega) (by omega) hc11.bytes hc11.cap1 hc11.cap2 (.inr (by omega)) zero zero z48t tid hlz zero).mono ?_); rintro en w12 ⟨rfl, H3h, c12⟩; have z12 := c12.size))
      have lg10 : gd < (w9.drewN nq).heap.size := by omega
      have lg11 : gd < w11.heap.size := by omega
      have D11 := D10.below g11
      have D12 := row_chg2 D11 c12 (fun e => by have h1 := e.1; omega)
      have F12 := (F10.below g11 lg10).chg c12 (fun e => by have h1 := e.1; omega) lg11
      have B12 : Below w.heap.size w w12 := (B10.trans (g11.mono B10.size)).trans (c12.below (fun k hk => by have h1 := hk.1.1; omega) (by omega))
      have HD2 := D12.bytes
      have hcq : w12.cell? ⟨gd, q2, none⟩ = some (.int .u8 zq2) := by
        obtain ⟨b', off', e', _, hc'⟩ := HD2.cells (by omega)
        injection e' with e'; injection e' with e1 e2; subst e1; subst e2
        have := hc' q2 hq21
        rw [Nat.zero_add, hzq2] at this
        exact this
      have hfq : w12.frozen? ⟨gd, q2, none⟩ = false := F12 q2
      refine region_tail_b 10 (by kernel_rfl) (by kernel_rfl) rfl ?_
      simp only [List.take_succ_cons, List.take_zero, List.drop_succ_cons, List.drop_zero]
      (repeat (go_big_quiet_step (fail)))
      refine wpQuiet_nil ?_
      have B13 : Below w.heap.size w ((w12.setCell ⟨gd, q2, none⟩ (.int .u8 (bits .xor .u8 zq2 (128 / 2 ^ m2)))).drew) := (B12.setCell (p := ⟨gd, q2, none⟩) (by show w.heap.size ≤ gd; omega) _).drew
      have c13 : ChgL (fun j => j = gd) w12 ((w12.setCell ⟨gd, q2, none⟩ (.int .u8 (bits .xor .u8 zq2 (128 / 2 ^ m2)))).drew) := ChgL.chg (((Chg.refl gd w12).setCell q2 _).drew) rfl
      have H3i : Pln1H w1.heap.size w2.heap.size V.heap.size w3.heap.size Qp c (c.nxt S4.zero 5 true) 1 (hit v 1) (hit v 2) (hit v 3) 0 0 false 6 0 1 (hit v 1) (hit v 2) (hit v 3) ((w12.setCell ⟨gd, q2, none⟩ (.int .u8 (bits .xor .u8 zq2 (128 / 2 ^ m2)))).drew) := by simpa [oneIf] using H3h.other3 c13 (fun j e => by omega)
      have D13b : BytesAt (w12.setCell ⟨gd, q2, none⟩ (.int .u8 (bits .xor .u8 zq2 (128 / 2 ^ m2)))) (some ⟨gd, 0, none⟩) 53 (flipZ zz κ) := by rw [hfl]; exact HD2.set hq21 (xor8_bd (m := m2) hyb.1 hyb.2).1 (xor8_bd (m := m2) hyb.1 hyb.2).2
      have D13 : CellRow ((w12.setCell ⟨gd, q2, none⟩ (.int .u8 (bits .xor .u8 zq2 (128 / 2 ^ m2)))).drew) w5.heap.size gd cd (flipZ zz κ) := ⟨D13b.below (Below.refl _ _).drew, D12.cap1, D12.cap2, D12.low⟩
      have one : (0 : Int) ≤ 1 ∧ (1 : Int) ≤ 1000000 := by omega
      obtain ⟨t1, t2, t3⟩ := two_drop ps i κ i40 κ40 hik
      rw [hzz] at t1 t2 t3
      have z13 : w3.heap.size ≤ ((w12.setCell ⟨gd, q2, none⟩ (.int .u8 (bits .xor .u8 zq2 (128 / 2 ^ m2)))).drew).heap.size := Nat.le_trans (by omega) c13.size
      clear D13b hfl HD2 iq im hsh D11 D12 D10 D9 F12 F10 F9 H3e H3f H3g H3h c12 hc11 tid g11 HD
      have ix := index9 (hit v 1) (hit v 2) (hit v 3)
      go_wp2_with (first
        | (go_at_call 11; (with_reducible refine (arrive_badH w1.heap.size w2.heap.size V.heap.size w3.heap.size Qp c (c.nxt S4.zero 5 true) 1 (hit v 1) (hit v 2) (hit v 3) 0 0 false 6 0 1 (hit v 1) (hit v 2) (hit v 3) 7 (flipZ zz κ) false true gd cd _ H3i (by omega) (by omega) D13.bytes D13.cap1 D13.cap2 (.inr l3) zero zero t1 t2 t3 zero).mono ?_); rintro en w14 ⟨rfl, H3j, c14⟩; have z14 := c14.size; have Hn := H3j.out)
        | (go_at_call 12; (with_reducible refine (pcounts_any V.heap.size w3.heap.size Qp c (c.nxt S4.zero 5 true) 1 (hit v 1) (hit v 2) (hit v 3) (0 + oneIf false) (0 + 1) true 7 (0 + 1) 1 (hit v 1) (hit v 2) (hit v 3) _ Hn).mono ?_); rintro en w15 ⟨rfl, g15⟩))
      go_ret
      refine ⟨rfl, ?_⟩
      exact (B13.trans (c14.below (fun k hk => by have h1 := hk.1.1; omega) B13.size)).trans (g15.mono (by omega))
namespace topRepairs
theorem topRepairs_any (k p e wh b l : Int) (ps : List Int) (β ω : Int) (w : World) (hlp : ps.length = 48) (hbp : allB ps) (b0 : 0 ≤ β) (b1 : β < 256) (o0 : 0 ≤ ω) (o1 : ω < 256) :
    Calls Tryz.prog 3 #[.agg #[.int .i64 k, .int .i64 p, .int .i64 e, .int .i64 wh, .int .i64 b, .int .i64 l], .agg (u8s ps).toArray, .int .u8 β, .int .u8 ω] w fun e w' => e = .returned (.bool true) ∧ Below w.heap.size w w' := by
  by_cases hR : rightZ k p e wh b l = 0
  · exact topRepairs_go k p e wh b l (u8s ps).toArray ps β ω w (Lib.hid rfl) (Lib.hid hlp) (Lib.hid hbp) ⟨b0, b1⟩ ⟨o0, o1⟩ hR
  · exact topRepairs_bad k p e wh b l (u8s ps).toArray ps β ω w (Lib.hid rfl) hR
end topRepairs
end Go.Proofs.YtaoagbnhomjkpaaGreat
