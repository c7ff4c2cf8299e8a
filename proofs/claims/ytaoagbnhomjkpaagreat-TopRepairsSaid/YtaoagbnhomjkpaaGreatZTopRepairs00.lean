import Derived.Test.YtaoagbnhomjkpaaGreatZTopVerdicts01
import Derived.Test.YtaoagbnhomjkpaaGreatZTopVerdicts02
/- plane: a cell that is idle, or spoilt. -/
namespace Go.Proofs.YtaoagbnhomjkpaaGreat
set_option linter.unusedVariables false
set_option linter.unusedSimpArgs false
open Go.RowKit
set_option maxRecDepth 100000
set_option maxHeartbeats 4000000
theorem noCell_zero : noCell = cellV 0 0 0 0 0 (List.replicate 48 0) := rfl
theorem parseD (K : Nat) (rr rd : Int) (rc : Bool) (b cap : Nat) (zs : List Int) (F sy : Bool) (X : Array Value) (w : World) (hX : Hid (X = (cellV 0 0 0 0 0 (List.replicate 48 0)).toArray)) (h : RecAt w K rr rd rc) (r0 : 0 ≤ rr ∧ rr ≤ 1000000) (d0 : 0 ≤ rd ∧ rd ≤ 1000000) (hz : BytesAt w (some ⟨b, 0, none⟩) 53 zs) (hc1 : 53 ≤ cap) (hc2 : cap ≤ 9223372036854775807) (hn : b ≠ K) (hd : drops rc (zs.take 5) = true) (hf : fixes rc (zs.take 5) = F) (hs : (synd (zs.take 5) != 0) = sy) :
    Calls Tryz.prog 16 #[.slice (some ⟨b, 0, none⟩) 53 cap, .pointer (some ⟨K, 0, none⟩), .bool false] w fun e w' => e = .returned (.tuple #[.agg X, .int .i64 4]) ∧ RecAt w' K (rr + oneIf F) (rd + 1) sy ∧ Chg K w w' := by
  have hq := cellParse_drop K rr rd rc (some ⟨b, 0, none⟩) cap zs false w h r0.1 r0.2 d0.1 d0.2 hz hc1 hc2 (fun b' off e => by injection e with e; injection e with e1 e2; omega) hd
  rw [hd, hf, hs] at hq
  rw [hX.out]
  refine hq.mono ?_
  rintro e w' ⟨rfl, hR, hC⟩
  exact ⟨rfl, by simpa [oneIf] using hR, hC⟩
theorem arrive_idle (lo hi Q N T W cm L cap K y A a b pl ph : Nat) (cz : Pz) (S : S4) (c0 c1 c2 c3 rr rd : Int) (rc : Bool) (now sp id pa ta dr t : Int) (zs : List Int) (F sy : Bool) (bb cc : Nat) (w : World) (hP : PlAt lo hi Q N T W cm L cap K y A a b pl ph cz S c0 c1 c2 c3 rr rd rc now sp id pa ta dr w) (t0 : now ≤ t) (t1 : t ≤ 1152921504606846976)
    (hz : BytesAt w (some ⟨bb, 0, none⟩) 53 zs) (hc1 : 53 ≤ cc) (hc2 : cc ≤ 9223372036854775807) (hout : bb < lo ∨ hi ≤ bb) (br : 0 ≤ rr ∧ rr ≤ 1000000) (bq : 0 ≤ rd ∧ rd ≤ 1000000) (ps : List Int) (hd : Told rc zs 0 0 0 0 0 ps F sy) (hlp : Hid (ps.length = 48)) (bi : 0 ≤ id ∧ id ≤ 1000000) :
    Calls Tryz.prog 11 #[.pointer (some ⟨Q, 0, none⟩), .int .i64 t, .int .i64 0, .slice (some ⟨bb, 0, none⟩) 53 cc] w fun e w' => e = .returned (.tuple #[.slice none 0 0, .int .i64 0]) ∧ PlAt lo hi Q N T W cm L cap K y A a b pl ph cz S c0 c1 c2 c3 (rr + oneIf F) rd sy t sp (id + 1) pa ta dr w' ∧ ChgL (Mv Q K A a b pl ph) w w' := by
  obtain ⟨X, hX⟩ : ∃ X, Hid (X = (cellV 0 0 0 0 0 ps).toArray) := ⟨_, rfl⟩
  have hsx : X.size = 53 := sizeX hX hlp.out
  have hmv := hP.mv
  obtain ⟨nQ, nK, ny, nA, ⟨q1, q2, q3⟩, yq⟩ := hP.apart
  clear ny nA yq
  have dQ := hmv Q (.inl rfl)
  have dK := hmv K (.inr (.inl rfl))
  have nL : L ≠ Q := plAt_lq hP
  have hbQ : bb ≠ Q := out_ne hout dQ
  have hbK : bb ≠ K := out_ne hout dK
  have P0 := hP.1
  have k10 := P0.c10
  have f10 := P0.froz 10
  have CV : ChgL (fun j => j = Q) w (w.setCell ⟨Q, 10, none⟩ (.int .i64 t)) := ChgL.chg ((Chg.refl Q w).setCell 10 _) rfl
  have HV : PlAt lo hi Q N T W cm L cap K y A a b pl ph cz S c0 c1 c2 c3 rr rd rc t sp id pa ta dr (w.setCell ⟨Q, 10, none⟩ (.int .i64 t)) :=
    hP.step CV (fun j e => .inl e) P0.sNow (hP.2.2.1.blk (CV.block K hP.2.2.1.lt (fun e => q1 e.symm))) (hP.2.2.2.2.2.2.1.block (CV.block A hP.2.2.2.2.2.2.1.lt (fun e => q2 e.symm))) (hP.2.2.2.2.2.2.2.1.other CV (fun j e => by rw [e]; exact nQ))
  have c1V := HV.1.c1
  have LV := HV.2.1
  have KV := HV.2.2.1
  have ZV : BytesAt (w.setCell ⟨Q, 10, none⟩ (.int .i64 t)) (some ⟨bb, 0, none⟩) 53 zs := hz.chgU (p := Q) ((Chg.refl Q w).setCell 10 _) (fun b' off e => by injection e with e; injection e with e1 e2; rw [← e1]; exact hbQ)
  have hkd : kindZ 0 0 0 0 = 3 := by kernel_rfl
  have hke : decide (kindZ 0 0 0 0 = 2 ∨ kindZ 0 0 0 0 = 3) = true := by rw [hkd]; decide
  have HKD := Lib.hid hkd
  have HD := Lib.hid hd
  clear hkd hd
  go_enter Tryz.func11, Tryz.ntmps11
  go_wp2_with (first
    | (go_at_call 35; (with_reducible refine (comes_ok Q N T W cm _ 1 now sp id pa ta dr t _ P0 t0 t1).mono ?_); rintro e w0 ⟨rfl, rfl⟩)
    | (go_at_call 27; (with_reducible refine (linked_yes Q N T W cm L cap 1 now sp id pa ta dr _ P0).mono ?_); rintro e w0 ⟨rfl, rfl⟩)
    | (go_at_call 16; (with_reducible refine (parseX K rr rd rc bb cc zs 0 0 0 0 0 ps F sy X _ hX KV br bq ZV hc1 hc2 hbK HD.out).mono ?_); rintro e w1 ⟨rfl, hR, g1⟩; have H1 := plAt_rec HV g1 hR)
    | ((with_reducible refine wpList_fill46 X ?_ ?_); (focus (exact ⟨rfl, rfl, hsx, oneX hX, rfl⟩)); intro W2 hs_W2 hb_W2 Y_2; obtain ⟨x0, x1, x2, x3, x4⟩ := hdr_of Y_2 hX)
    | (go_at_call 36; (with_reducible refine (kind_any 0 0 0 0 0 _).mono ?_); rw [HKD.out]; rintro e w3 ⟨rfl, g3⟩; have Y_3 := range_below Y_2 g3; have H3 := (H1.below hb_W2).below g3)
    | ((with_reducible refine wpList_load46 X ?_ ?_); (focus (exact ⟨_, rfl, hsx, (by assumption)⟩)))
    | (go_at_call 37; (with_reducible refine (emptyX_any X 0 0 0 0 0 ps _ hX hlp.out hke).mono ?_); rintro e w4 ⟨rfl, g4⟩; have H4 := H3.below g4))
  have R := H4.1
  have rr0 := R.c13
  have rf0 := R.froz 13
  have wr : IntKind.i64.wrap (id + 1) = id + 1 := IntWalk.i64_in _ (by clear hP hmv HV; omega)
  refine region_tail_b 9 (by kernel_rfl) (by kernel_rfl) rfl ?_
  simp only [List.take_succ_cons, List.take_zero, List.drop_succ_cons, List.drop_zero]
  (repeat (go_big_quiet_step (fail)))
  refine wpQuiet_nil ?_
  go_wp2
  go_ret2
  obtain ⟨V, hV⟩ : ∃ V, V = (w4.setCell ⟨Q, 13, none⟩ (.int .i64 (id + 1))).drew := ⟨_, rfl⟩
  have C23 : ChgL (fun j => j = Q) w4 V := by rw [hV]; exact ChgL.chg (((Chg.refl Q w4).setCell 13 _).drew) rfl
  have PV : PlnRow V Q N T W cm (.slice (some ⟨L, 0, none⟩) 2 cap) 1 t sp (id + 1) pa ta dr := by rw [hV]; exact PlnRow.below R.sId (Below.refl _ _).drew
  rw [← hV]
  have FV := H4.step C23 (fun j e => .inl e) PV (H4.2.2.1.blk (C23.block K H4.2.2.1.lt (fun e => q1 e.symm))) (H4.2.2.2.2.2.2.1.block (C23.block A H4.2.2.2.2.2.2.1.lt (fun e => q2 e.symm))) (H4.2.2.2.2.2.2.2.1.other C23 (fun j e => by rw [e]; exact nQ))
  have B13 : Below w1.heap.size w1 w4 := ((hb_W2.trans (g3.mono hb_W2.size)).trans (g4.mono (Nat.le_trans hb_W2.size g3.size)))
  exact ⟨rfl, FV, (((CV.mono (fun j e => .inl e)).trans (ChgL.chg g1 (.inr (.inl rfl)))).trans (ChgL.of B13)).trans (C23.mono (fun j e => .inl e))⟩
theorem arrive_bad (lo hi Q N T W cm L cap K y A a b pl ph : Nat) (cz : Pz) (S : S4) (c0 c1 c2 c3 rr rd : Int) (rc : Bool) (now sp id pa ta dr t : Int) (zs : List Int) (F sy : Bool) (bb cc : Nat) (w : World) (hP : PlAt lo hi Q N T W cm L cap K y A a b pl ph cz S c0 c1 c2 c3 rr rd rc now sp id pa ta dr w) (t0 : now ≤ t) (t1 : t ≤ 1152921504606846976)
    (hz : BytesAt w (some ⟨bb, 0, none⟩) 53 zs) (hc1 : 53 ≤ cc) (hc2 : cc ≤ 9223372036854775807) (hout : bb < lo ∨ hi ≤ bb) (br : 0 ≤ rr ∧ rr ≤ 1000000) (bq : 0 ≤ rd ∧ rd ≤ 1000000) (hd : drops rc (zs.take 5) = true) (hf : fixes rc (zs.take 5) = F) (hs : (synd (zs.take 5) != 0) = sy) (bi : 0 ≤ sp ∧ sp ≤ 1000000) :
    Calls Tryz.prog 11 #[.pointer (some ⟨Q, 0, none⟩), .int .i64 t, .int .i64 0, .slice (some ⟨bb, 0, none⟩) 53 cc] w fun e w' => e = .returned (.tuple #[.slice none 0 0, .int .i64 4]) ∧ PlAt lo hi Q N T W cm L cap K y A a b pl ph cz S c0 c1 c2 c3 (rr + oneIf F) (rd + 1) sy t (sp + 1) id pa ta dr w' ∧ ChgL (Mv Q K A a b pl ph) w w' := by
  obtain ⟨X, hX⟩ : ∃ X, Hid (X = (cellV 0 0 0 0 0 (List.replicate 48 0)).toArray) := ⟨_, rfl⟩
  have hsx : X.size = 53 := sizeX hX (by simp)
  have hmv := hP.mv
  obtain ⟨nQ, nK, ny, nA, ⟨q1, q2, q3⟩, yq⟩ := hP.apart
  clear ny nA yq
  have dQ := hmv Q (.inl rfl)
  have dK := hmv K (.inr (.inl rfl))
  have nL : L ≠ Q := plAt_lq hP
  have hbQ : bb ≠ Q := out_ne hout dQ
  have hbK : bb ≠ K := out_ne hout dK
  have P0 := hP.1
  have k10 := P0.c10
  have f10 := P0.froz 10
  have CV : ChgL (fun j => j = Q) w (w.setCell ⟨Q, 10, none⟩ (.int .i64 t)) := ChgL.chg ((Chg.refl Q w).setCell 10 _) rfl
  have HV : PlAt lo hi Q N T W cm L cap K y A a b pl ph cz S c0 c1 c2 c3 rr rd rc t sp id pa ta dr (w.setCell ⟨Q, 10, none⟩ (.int .i64 t)) :=
    hP.step CV (fun j e => .inl e) P0.sNow (hP.2.2.1.blk (CV.block K hP.2.2.1.lt (fun e => q1 e.symm))) (hP.2.2.2.2.2.2.1.block (CV.block A hP.2.2.2.2.2.2.1.lt (fun e => q2 e.symm))) (hP.2.2.2.2.2.2.2.1.other CV (fun j e => by rw [e]; exact nQ))
  have c1V := HV.1.c1
  have LV := HV.2.1
  have KV := HV.2.2.1
  have ZV : BytesAt (w.setCell ⟨Q, 10, none⟩ (.int .i64 t)) (some ⟨bb, 0, none⟩) 53 zs := hz.chgU (p := Q) ((Chg.refl Q w).setCell 10 _) (fun b' off e => by injection e with e; injection e with e1 e2; rw [← e1]; exact hbQ)
  have hkd : kindZ 0 0 0 0 = 3 := by kernel_rfl
  have hke : decide (kindZ 0 0 0 0 = 2 ∨ kindZ 0 0 0 0 = 3) = true := by rw [hkd]; decide
  have HKD := Lib.hid hkd
  have HD := Lib.hid hd
  have HF := Lib.hid hf
  have HS2 := Lib.hid hs
  clear hkd hd hf hs
  go_enter Tryz.func11, Tryz.ntmps11
  go_wp2_with (first
    | (go_at_call 35; (with_reducible refine (comes_ok Q N T W cm _ 1 now sp id pa ta dr t _ P0 t0 t1).mono ?_); rintro e w0 ⟨rfl, rfl⟩)
    | (go_at_call 27; (with_reducible refine (linked_yes Q N T W cm L cap 1 now sp id pa ta dr _ P0).mono ?_); rintro e w0 ⟨rfl, rfl⟩)
    | (go_at_call 16; (with_reducible refine (parseD K rr rd rc bb cc zs F sy X _ hX KV br bq ZV hc1 hc2 hbK HD.out HF.out HS2.out).mono ?_); rintro e w1 ⟨rfl, hR, g1⟩; have H1 := plAt_rec HV g1 hR)
    | ((with_reducible refine wpList_fill46 X ?_ ?_); (focus (exact ⟨rfl, rfl, hsx, oneX hX, rfl⟩)); intro W2 hs_W2 hb_W2 Y_2; obtain ⟨x0, x1, x2, x3, x4⟩ := hdr_of Y_2 hX)
    | (go_at_call 36; (with_reducible refine (kind_any 0 0 0 0 0 _).mono ?_); rw [HKD.out]; rintro e w3 ⟨rfl, g3⟩; have Y_3 := range_below Y_2 g3; have H3 := (H1.below hb_W2).below g3))
  have R := H3.1
  have rr0 := R.c12
  have rf0 := R.froz 12
  have wr : IntKind.i64.wrap (sp + 1) = sp + 1 := IntWalk.i64_in _ (by clear hP hmv HV; omega)
  refine region_tail_b 9 (by kernel_rfl) (by kernel_rfl) rfl ?_
  simp only [List.take_succ_cons, List.take_zero, List.drop_succ_cons, List.drop_zero]
  (repeat (go_big_quiet_step (fail)))
  refine wpQuiet_nil ?_
  go_wp2
  go_ret2
  obtain ⟨V, hV⟩ : ∃ V, V = (w3.setCell ⟨Q, 12, none⟩ (.int .i64 (sp + 1))).drew := ⟨_, rfl⟩
  have C23 : ChgL (fun j => j = Q) w3 V := by rw [hV]; exact ChgL.chg (((Chg.refl Q w3).setCell 12 _).drew) rfl
  have PV : PlnRow V Q N T W cm (.slice (some ⟨L, 0, none⟩) 2 cap) 1 t (sp + 1) id pa ta dr := by rw [hV]; exact PlnRow.below R.sSp (Below.refl _ _).drew
  rw [← hV]
  have FV := H3.step C23 (fun j e => .inl e) PV (H3.2.2.1.blk (C23.block K H3.2.2.1.lt (fun e => q1 e.symm))) (H3.2.2.2.2.2.2.1.block (C23.block A H3.2.2.2.2.2.2.1.lt (fun e => q2 e.symm))) (H3.2.2.2.2.2.2.2.1.other C23 (fun j e => by rw [e]; exact nQ))
  have B13 : Below w1.heap.size w1 w3 := hb_W2.trans (g3.mono hb_W2.size)
  exact ⟨rfl, FV, (((CV.mono (fun j e => .inl e)).trans (ChgL.chg g1 (.inr (.inl rfl)))).trans (ChgL.of B13)).trans (C23.mono (fun j e => .inl e))⟩
end Go.Proofs.YtaoagbnhomjkpaaGreat

/- The law TopRepairs: plain facts. -/
namespace Go.Proofs.YtaoagbnhomjkpaaGreat
set_option linter.unusedVariables false
set_option linter.unusedSimpArgs false
open Go.RowKit
set_option maxRecDepth 100000
set_option maxHeartbeats 4000000
def oneOk (i : Nat) : Bool := let z := flipZ (headZ (wIn 0)) i; fixes false z && !drops false z && (synd z != 0) && (uG false (takes false z) == 0) && (uP false (takes false z) == 0) && (uC (takes false z) == 40) && (uT (takes false z) == 0) && (uL (takes false z) == 0)
def twoOk (i k : Nat) : Bool := let z := flipZ (flipZ (headZ (wIn 0)) i) k; drops false z && !fixes false z && (synd z != 0)
theorem one_all : ((List.range 40).all oneOk) = true := by kernel_rfl
theorem two_all : ((List.range 40).all fun i => (List.range 40).all fun k => i == k || twoOk i k) = true := by kernel_rfl
theorem flip_head (n : Int) (ps : List Int) (i : Nat) (hi : i < 40) : flipZ (cellZ n ps) i = flipZ (headZ n) i ++ ps := by
  have hl : (headZ n).length = 5 := rfl
  have h8 : i / 8 < 5 := by omega
  unfold flipZ cellZ
  rw [List.getElem?_append_left (by omega), List.set_append_left _ _ (by omega)]
theorem flip_head2 (n : Int) (ps : List Int) (i k : Nat) (hi : i < 40) (hk : k < 40) : flipZ (flipZ (cellZ n ps) i) k = flipZ (flipZ (headZ n) i) k ++ ps := by
  have hl : (flipZ (headZ n) i).length = 5 := by rw [flip_len]; rfl
  rw [flip_head n ps i hi]
  obtain ⟨h5, he⟩ : ∃ h5, flipZ (headZ n) i = h5 := ⟨_, rfl⟩
  rw [he] at hl ⊢
  unfold flipZ
  rw [List.getElem?_append_left (by omega), List.set_append_left _ _ (by omega)]
theorem told_flip (ps : List Int) (i : Nat) (hi : i < 40) : Told false (flipZ (cellZ (wIn 0) ps) i) 0 0 40 0 0 ps true true := by
  have h := List.all_eq_true.1 one_all i (List.mem_range.2 hi)
  have hl : (flipZ (headZ (wIn 0)) i).length = 5 := by rw [flip_len]; rfl
  unfold oneOk at h
  simp only [Bool.and_eq_true, Bool.not_eq_true', beq_iff_eq] at h
  obtain ⟨⟨⟨⟨⟨⟨⟨h1, h2⟩, h3⟩, h4⟩, h5⟩, h6⟩, h7⟩, h8⟩ := h
  unfold Told
  rw [flip_head _ _ _ hi, List.take_left' hl, List.drop_left' hl]
  exact ⟨h2, h1, h3, h4, h5, h6, h7, h8, rfl⟩
theorem two_drop (ps : List Int) (i k : Nat) (hi : i < 40) (hk : k < 40) (hn : i ≠ k) : drops false ((flipZ (flipZ (cellZ (wIn 0) ps) i) k).take 5) = true ∧ fixes false ((flipZ (flipZ (cellZ (wIn 0) ps) i) k).take 5) = false ∧ (synd ((flipZ (flipZ (cellZ (wIn 0) ps) i) k).take 5) != 0) = true := by
  have h := List.all_eq_true.1 (List.all_eq_true.1 two_all i (List.mem_range.2 hi)) k (List.mem_range.2 hk)
  have hl : (flipZ (flipZ (headZ (wIn 0)) i) k).length = 5 := by rw [flip_len, flip_len]; rfl
  rw [flip_head2 _ _ _ _ hi hk, List.take_left' hl]
  have hne : (i == k) = false := by simp [hn]
  simp only [hne, Bool.false_or] at h
  unfold twoOk at h
  simp only [Bool.and_eq_true, Bool.not_eq_true'] at h
  exact ⟨h.1.1, h.1.2, h.2⟩
/-- the idle cell. -/
theorem told_idle (ps : List Int) (rc : Bool) : Told rc (cellZ (wordH false 0 0 0 0 0) ps) 0 0 0 0 0 ps false false := by
  have e : (cellZ (wordH false 0 0 0 0 0) ps).take 5 = headZ (wordH false 0 0 0 0 0) := rfl
  have e2 : (cellZ (wordH false 0 0 0 0 0) ps).drop 5 = ps := rfl
  unfold Told
  rw [e, e2]
  cases rc <;> exact ⟨by kernel_rfl, by kernel_rfl, by kernel_rfl, by kernel_rfl, by kernel_rfl, by kernel_rfl, by kernel_rfl, by kernel_rfl, rfl⟩
end Go.Proofs.YtaoagbnhomjkpaaGreat
