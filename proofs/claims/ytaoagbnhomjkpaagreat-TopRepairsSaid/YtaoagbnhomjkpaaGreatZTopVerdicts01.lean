import Derived.Test.YtaoagbnhomjkpaaGreatZTopVerdicts00
import Derived.Test.YtaoagbnhomjkpaaGreatZTopRates08
import Derived.Test.YtaoagbnhomjkpaaGreatZTopRates11
/- plane: a cell comes. -/
namespace Go.Proofs.YtaoagbnhomjkpaaGreat
set_option linter.unusedVariables false
set_option linter.unusedSimpArgs false
open Go.RowKit
set_option maxRecDepth 100000
set_option maxHeartbeats 4000000
/-- what Arrive sends, by the verdict. -/
def SentAt (w : World) (lo : Nat) (v l : Int) (ps : List Int) (r : Value) : Prop := (v = 3 ∧ r = .slice none 0 0) ∨ (v ≠ 3 ∧ OutAt w lo r (cellZ (wordH false 0 0 50 0 (if v = 2 then 1 else l)) ps))
theorem pass_any (lo hi Q N T W cm L cap K y A a b pl ph : Nat) (cz : Pz) (S : S4) (c0 c1 c2 c3 rr rd : Int) (rc : Bool) (now sp id pa ta dr l : Int) (ps : List Int) (X : Array Value) (w : World) (h : PlAt lo hi Q N T W cm L cap K y A a b pl ph cz S c0 c1 c2 c3 rr rd rc now sp id pa ta dr w) (hhi : hi ≤ w.heap.size) (hX : Hid (X = (cellV 0 0 40 0 l ps).toArray)) (hlp : Hid (ps.length = 48)) (hbp : Hid (allB ps)) (hl : l = 0 ∨ l = 1)
    (z : Bool) (hz : (l == 0) = z) (hM : S.Bd 2305843009213693952) (b0 : 0 ≤ c0 ∧ c0 ≤ 1000000) (b1 : 0 ≤ c1 ∧ c1 ≤ 1000000) (b2 : 0 ≤ c2 ∧ c2 ≤ 1000000) (b3 : 0 ≤ c3 ∧ c3 ≤ 1000000) (bp : 0 ≤ pa ∧ pa ≤ 1000000) (bt : 0 ≤ ta ∧ ta ≤ 1000000) (bd : 0 ≤ dr ∧ dr ≤ 1000000) (v : Int) (hv : cz.last S now z = v) :
    Calls Tryz.prog 40 #[.pointer (some ⟨Q, 0, none⟩), .pointer (some ⟨y, 0, none⟩), .agg X, .bool true] w fun e w' => ∃ r, e = .returned r ∧ SentAt w' w.heap.size v l ps r ∧ PlAt lo hi Q N T W cm L cap K y A a b pl ph cz (cz.nxt S now z) (c0 + 1) (c1 + hit v 1) (c2 + hit v 2) (c3 + hit v 3) rr rd rc now sp id (pa + hit v 1) (ta + hit v 2) (dr + hit v 3) w' ∧ ChgL (Mv Q K A a b pl ph) w w' := by
  have r1 : rightH false 0 0 50 0 1 = true := by kernel_rfl
  have r0 : rightH false 0 0 50 0 0 = true := by kernel_rfl
  have rl : rightH false 0 0 50 0 l = true := by rcases hl with rfl | rfl; exact r0; exact r1
  have h0 : ∀ x : Int, x + 0 = x := fun x => by omega
  rcases last_ex cz S now z with e | e | e <;> (rw [e] at hv; subst hv)
  · refine (pass_pass lo hi Q N T W cm L cap K y A a b pl ph cz S c0 c1 c2 c3 rr rd rc now sp id pa ta dr 0 l ps X w h hhi hX hlp hbp z hz hM b0 b1 b2 b3 bp e rl _ (Lib.hid rfl)).mono ?_
    rintro e w' ⟨⟨r, rfl, ho⟩, hP, hC⟩
    refine ⟨r, rfl, .inr ⟨by decide, ho⟩, ?_, hC⟩
    simpa [hit] using hP
  · refine (pass_tag lo hi Q N T W cm L cap K y A a b pl ph cz S c0 c1 c2 c3 rr rd rc now sp id pa ta dr 0 l ps X w h hhi hX hlp hbp z hz hM b0 b1 b2 b3 bt e r1 _ (Lib.hid rfl)).mono ?_
    rintro e w' ⟨⟨r, rfl, ho⟩, hP, hC⟩
    refine ⟨r, rfl, .inr ⟨by decide, ho⟩, ?_, hC⟩
    simpa [hit] using hP
  · refine (pass_drop lo hi Q N T W cm L cap K y A a b pl ph cz S c0 c1 c2 c3 rr rd rc now sp id pa ta dr 0 l ps X w h hhi hX hlp hbp z hz hM b0 b1 b2 b3 bd e).mono ?_
    rintro e w' ⟨rfl, hP, hC⟩
    refine ⟨_, rfl, .inl ⟨rfl, rfl⟩, ?_, hC⟩
    simpa [hit] using hP
theorem comes_ok (Q N T W cm : Nat) (ls : Value) (nx now sp id pa ta dr t : Int) (w : World) (h : PlnRow w Q N T W cm ls nx now sp id pa ta dr) (t0 : now ≤ t) (t1 : t ≤ 1152921504606846976) :
    Calls Tryz.prog 35 #[.pointer (some ⟨Q, 0, none⟩), .int .i64 t] w fun e w' => e = .returned (.int .i64 0) ∧ w = w' := by
  have c10 := h.c10
  go_enter Tryz.func35, Tryz.ntmps35
  go_wp2
  all_goals first
    | (go_ret
       exact ⟨rfl, rfl⟩)
    | (exfalso; omega)
theorem hdr_of {w : World} {b : Nat} {X : Array Value} {g p c t l : Int} {ps : List Int} (h : w.rangeAt b 0 X.toList) (hX : Hid (X = (cellV g p c t l ps).toArray)) :
    w.cell? ⟨b, 0, none⟩ = some (.int .i64 g) ∧ w.cell? ⟨b, 1, none⟩ = some (.int .i64 p) ∧ w.cell? ⟨b, 2, none⟩ = some (.int .i64 c) ∧ w.cell? ⟨b, 3, none⟩ = some (.int .i64 t) ∧ w.cell? ⟨b, 4, none⟩ = some (.int .i64 l) := by
  rw [hX.out] at h
  exact ⟨h 0 _ rfl, h 1 _ rfl, h 2 _ rfl, h 3 _ rfl, h 4 _ rfl⟩
/-- a cell's bytes tell this header and payload to a receiver. -/
def Told (rc : Bool) (zs : List Int) (g p c t l : Int) (ps : List Int) (F sy : Bool) : Prop :=
  drops rc (zs.take 5) = false ∧ fixes rc (zs.take 5) = F ∧ (synd (zs.take 5) != 0) = sy ∧ uG false (takes rc (zs.take 5)) = g ∧ uP false (takes rc (zs.take 5)) = p ∧ uC (takes rc (zs.take 5)) = c ∧ uT (takes rc (zs.take 5)) = t ∧ uL (takes rc (zs.take 5)) = l ∧ zs.drop 5 = ps
theorem parseX (K : Nat) (rr rd : Int) (rc : Bool) (b cap : Nat) (zs : List Int) (g p c t l : Int) (ps : List Int) (F sy : Bool) (X : Array Value) (w : World) (hX : Hid (X = (cellV g p c t l ps).toArray)) (h : RecAt w K rr rd rc) (r0 : 0 ≤ rr ∧ rr ≤ 1000000) (d0 : 0 ≤ rd ∧ rd ≤ 1000000) (hz : BytesAt w (some ⟨b, 0, none⟩) 53 zs) (hc1 : 53 ≤ cap) (hc2 : cap ≤ 9223372036854775807) (hn : b ≠ K) (hd : Told rc zs g p c t l ps F sy) :
    Calls Tryz.prog 16 #[.slice (some ⟨b, 0, none⟩) 53 cap, .pointer (some ⟨K, 0, none⟩), .bool false] w fun e w' => e = .returned (.tuple #[.agg X, .int .i64 0]) ∧ RecAt w' K (rr + oneIf F) rd sy ∧ Chg K w w' := by
  obtain ⟨h1, h2, h3, h4, h5, h6, h7, h8, h9⟩ := hd
  have hq := cellParse_take K rr rd rc (some ⟨b, 0, none⟩) cap zs false w h r0.1 r0.2 d0.1 d0.2 hz hc1 hc2 (fun b' off e => by injection e with e; injection e with e1 e2; omega) h1
  rw [h1, h2, h3, h4, h5, h6, h7, h8, h9] at hq
  rw [hX.out]
  refine hq.mono ?_
  rintro e w' ⟨rfl, hR, hC⟩
  exact ⟨rfl, by simpa [oneIf] using hR, hC⟩
theorem SentAt.low {w : World} {lo lo' : Nat} {v l : Int} {ps : List Int} {r : Value} (h : SentAt w lo v l ps r) (hl : lo' ≤ lo) : SentAt w lo' v l ps r := by
  rcases h with h | ⟨h1, o, b, cap, h2, h3, h4, h5, h6⟩
  · exact .inl h
  · exact .inr ⟨h1, o, b, cap, h2, h3, h4, ⟨h5.bytes, h5.cap1, h5.cap2, Nat.le_trans hl h5.low⟩, Nat.le_trans hl h6⟩
theorem plAt_rec {lo hi Q N T W cm L cap K y A a b pl ph : Nat} {cz : Pz} {S : S4} {c0 c1 c2 c3 : Int} {rr rd rr' rd' : Int} {rc rc' : Bool} {now sp id pa ta dr : Int} {w w' : World} (h : PlAt lo hi Q N T W cm L cap K y A a b pl ph cz S c0 c1 c2 c3 rr rd rc now sp id pa ta dr w) (g : Chg K w w') (hR : RecAt w' K rr' rd' rc') : PlAt lo hi Q N T W cm L cap K y A a b pl ph cz S c0 c1 c2 c3 rr' rd' rc' now sp id pa ta dr w' := by
  obtain ⟨nQ, nK, ny, nA, ⟨q1, q2, q3⟩, yq⟩ := h.apart
  have C : ChgL (fun j => j = K) w w' := ⟨g.os, g.tape, g.output, g.size, g.block⟩
  exact h.step C (fun j e => .inr (.inl e)) ((C.block Q h.1.lt q1).trans h.1) hR (h.2.2.2.2.2.2.1.block (C.block A h.2.2.2.2.2.2.1.lt (fun e => q3 e.symm))) (h.2.2.2.2.2.2.2.1.other C (fun j e => by rw [e]; exact nK))
theorem out_ne {x lo hi k : Nat} (h : x < lo ∨ hi ≤ x) (d : lo ≤ k ∧ k < hi) : x ≠ k := by omega
theorem plAt_lq {lo hi Q N T W cm L cap K y A a b pl ph : Nat} {cz : Pz} {S : S4} {c0 c1 c2 c3 : Int} {rr rd : Int} {rc : Bool} {now sp id pa ta dr : Int} {w : World} (h : PlAt lo hi Q N T W cm L cap K y A a b pl ph cz S c0 c1 c2 c3 rr rd rc now sp id pa ta dr w) : L ≠ Q := by
  obtain ⟨_, _, _, _, _, _, _, _, _, _, _, _, _, _, _, _, _, _, _, _, _, _, ⟨h, _⟩, _⟩ := h
  exact h
theorem arrive_at (lo hi Q N T W cm L cap K y A a b pl ph : Nat) (cz : Pz) (S : S4) (c0 c1 c2 c3 rr rd : Int) (rc : Bool) (now sp id pa ta dr t l : Int) (zs ps : List Int) (F sy : Bool) (bb cc : Nat) (w : World) (hP : PlAt lo hi Q N T W cm L cap K y A a b pl ph cz S c0 c1 c2 c3 rr rd rc now sp id pa ta dr w) (hhi : hi ≤ w.heap.size) (t0 : now ≤ t) (t1 : t ≤ 1152921504606846976)
    (hz : BytesAt w (some ⟨bb, 0, none⟩) 53 zs) (hc1 : 53 ≤ cc) (hc2 : cc ≤ 9223372036854775807) (hout : bb < lo ∨ hi ≤ bb) (hd : Told rc zs 0 0 40 0 l ps F sy) (hl : l = 0 ∨ l = 1) (hlp : Hid (ps.length = 48)) (hbp : Hid (allB ps)) (z : Bool) (hzz : (l == 0) = z)
    (hM : S.Bd 2305843009213693952) (b0 : 0 ≤ c0 ∧ c0 ≤ 1000000) (b1 : 0 ≤ c1 ∧ c1 ≤ 1000000) (b2 : 0 ≤ c2 ∧ c2 ≤ 1000000) (b3 : 0 ≤ c3 ∧ c3 ≤ 1000000) (br : 0 ≤ rr ∧ rr ≤ 1000000) (bq : 0 ≤ rd ∧ rd ≤ 1000000) (bp : 0 ≤ pa ∧ pa ≤ 1000000) (bt : 0 ≤ ta ∧ ta ≤ 1000000) (bd : 0 ≤ dr ∧ dr ≤ 1000000) (v : Int) (hv : cz.last S t z = v) :
    Calls Tryz.prog 11 #[.pointer (some ⟨Q, 0, none⟩), .int .i64 t, .int .i64 0, .slice (some ⟨bb, 0, none⟩) 53 cc] w fun e w' => ∃ r, e = .returned (.tuple #[r, .int .i64 0]) ∧ SentAt w' w.heap.size v l ps r ∧ PlAt lo hi Q N T W cm L cap K y A a b pl ph cz (cz.nxt S t z) (c0 + 1) (c1 + hit v 1) (c2 + hit v 2) (c3 + hit v 3) (rr + oneIf F) rd sy t sp id (pa + hit v 1) (ta + hit v 2) (dr + hit v 3) w' ∧ ChgL (Mv Q K A a b pl ph) w w' := by
  obtain ⟨X, hX⟩ : ∃ X, Hid (X = (cellV 0 0 40 0 l ps).toArray) := ⟨_, rfl⟩
  have hsx : X.size = 53 := sizeX hX hlp.out
  have hmv := hP.mv
  obtain ⟨nQ, nK, ny, nA, ⟨q1, q2, q3⟩, yq⟩ := hP.apart
  clear ny nA yq
  have dQ := hmv Q (.inl rfl)
  have dK := hmv K (.inr (.inl rfl))
  have nL : L ≠ Q := plAt_lq hP
  have hbQ : bb ≠ Q := out_ne hout dQ
  have hbK : bb ≠ K := out_ne hout dK
  have P0 := hP.1
  have k10 := P0.c10
  have f10 := P0.froz 10
  have CV : ChgL (fun j => j = Q) w (w.setCell ⟨Q, 10, none⟩ (.int .i64 t)) := ChgL.chg ((Chg.refl Q w).setCell 10 _) rfl
  have HV : PlAt lo hi Q N T W cm L cap K y A a b pl ph cz S c0 c1 c2 c3 rr rd rc t sp id pa ta dr (w.setCell ⟨Q, 10, none⟩ (.int .i64 t)) :=
    hP.step CV (fun j e => .inl e) P0.sNow (hP.2.2.1.blk (CV.block K hP.2.2.1.lt (fun e => q1 e.symm))) (hP.2.2.2.2.2.2.1.block (CV.block A hP.2.2.2.2.2.2.1.lt (fun e => q2 e.symm))) (hP.2.2.2.2.2.2.2.1.other CV (fun j e => by rw [e]; exact nQ))
  have c1V := HV.1.c1
  have LV := HV.2.1
  have KV := HV.2.2.1
  have ZV : BytesAt (w.setCell ⟨Q, 10, none⟩ (.int .i64 t)) (some ⟨bb, 0, none⟩) 53 zs := hz.chgU (p := Q) ((Chg.refl Q w).setCell 10 _) (fun b' off e => by injection e with e; injection e with e1 e2; rw [← e1]; exact hbQ)
  have hkd : kindZ 0 40 0 l = 1 := by rcases hl with rfl | rfl; kernel_rfl; kernel_rfl
  have hke : decide (kindZ 0 40 0 l = 2 ∨ kindZ 0 40 0 l = 3) = false := by rw [hkd]; decide
  have HKD := Lib.hid hkd
  have HZZ := Lib.hid hzz
  have HV2 := Lib.hid hv
  have HD := Lib.hid hd
  clear hkd hzz hv hd
  go_enter Tryz.func11, Tryz.ntmps11
  go_wp2_with (first
    | (go_at_call 35; (with_reducible refine (comes_ok Q N T W cm _ 1 now sp id pa ta dr t _ P0 t0 t1).mono ?_); rintro e w0 ⟨rfl, rfl⟩)
    | (go_at_call 27; (with_reducible refine (linked_yes Q N T W cm L cap 1 now sp id pa ta dr _ P0).mono ?_); rintro e w0 ⟨rfl, rfl⟩)
    | (go_at_call 16; (with_reducible refine (parseX K rr rd rc bb cc zs 0 0 40 0 l ps F sy X _ hX KV br bq ZV hc1 hc2 hbK HD.out).mono ?_); rintro e w1 ⟨rfl, hR, g1⟩; have H1 := plAt_rec HV g1 hR)
    | ((with_reducible refine wpList_fill46 X ?_ ?_); (focus (exact ⟨rfl, rfl, hsx, oneX hX, rfl⟩)); intro W2 hs_W2 hb_W2 Y_2; obtain ⟨x0, x1, x2, x3, x4⟩ := hdr_of Y_2 hX)
    | (go_at_call 36; (with_reducible refine (kind_any 0 0 40 0 l _).mono ?_); rw [HKD.out]; rintro e w3 ⟨rfl, g3⟩; have Y_3 := range_below Y_2 g3)
    | ((with_reducible refine wpList_load46 X ?_ ?_); (focus (exact ⟨_, rfl, hsx, (by assumption)⟩)))
    | (go_at_call 37; (with_reducible refine (emptyX_any X 0 0 40 0 l ps _ hX hlp.out hke).mono ?_); rintro e w4 ⟨rfl, g4⟩; have Y_4 := range_below Y_3 g4; clear x0 x1 x2 x3 x4; obtain ⟨x0, x1, x2, x3, x4⟩ := hdr_of Y_4 hX; have H4 := ((H1.below hb_W2).below g3).below g4; have P4 := H4.1; have T4 := H4.2.2.2.1; have W4 := H4.2.2.2.2.1)
    | (go_at_call 29; (with_reducible refine (findP_in1 Q N T W cm y _ 1 t sp id pa ta dr _ P4 T4 W4).mono ?_); rintro e w5 ⟨rfl, g5⟩; have H5 := H4.below g5; have Y_5 := range_below Y_4 g5; have z5 := Nat.le_trans CV.size (Nat.le_trans g1.size (Nat.le_trans hb_W2.size (Nat.le_trans g3.size (Nat.le_trans g4.size g5.size)))); have hhi5 := Nat.le_trans hhi z5)
    | (go_at_call 40; (with_reducible refine (pass_any lo hi Q N T W cm L cap K y A a b pl ph cz S c0 c1 c2 c3 (rr + oneIf F) rd sy t sp id pa ta dr l ps X _ H5 hhi5 hX hlp hbp hl z HZZ.out hM b0 b1 b2 b3 bp bt bd v HV2.out).mono ?_); rintro e w6 ⟨r, rfl, hs, H6, C6⟩))
  go_ret2
  have B15 : Below w1.heap.size w1 w5 := ((hb_W2.trans (g3.mono hb_W2.size)).trans (g4.mono (Nat.le_trans hb_W2.size g3.size))).trans (g5.mono (Nat.le_trans hb_W2.size (Nat.le_trans g3.size g4.size)))
  have CM : ChgL (Mv Q K A a b pl ph) w w6 := (((CV.mono (fun j e => .inl e)).trans (ChgL.chg g1 (.inr (.inl rfl)))).trans (ChgL.of B15)).trans C6
  exact ⟨r, rfl, hs.low z5, H6, CM⟩
theorem arrive_sent (lo hi Q : Nat) (cz : Pz) (S : S4) (c0 c1 c2 c3 rr rd : Int) (rc : Bool) (now sp id pa ta dr t l : Int) (zs ps : List Int) (F sy : Bool) (bb cc : Nat) (w : World) (h : Pln1 lo hi Q cz S c0 c1 c2 c3 rr rd rc now sp id pa ta dr w) (hhi : hi ≤ w.heap.size) (t0 : now ≤ t) (t1 : t ≤ 1152921504606846976)
    (hz : BytesAt w (some ⟨bb, 0, none⟩) 53 zs) (hc1 : 53 ≤ cc) (hc2 : cc ≤ 9223372036854775807) (hout : bb < lo ∨ hi ≤ bb) (hd : Told rc zs 0 0 40 0 l ps F sy) (hl : l = 0 ∨ l = 1) (hlp : Hid (ps.length = 48)) (hbp : Hid (allB ps)) (z : Bool) (hzz : (l == 0) = z)
    (hM : S.Bd 2305843009213693952) (b0 : 0 ≤ c0 ∧ c0 ≤ 1000000) (b1 : 0 ≤ c1 ∧ c1 ≤ 1000000) (b2 : 0 ≤ c2 ∧ c2 ≤ 1000000) (b3 : 0 ≤ c3 ∧ c3 ≤ 1000000) (br : 0 ≤ rr ∧ rr ≤ 1000000) (bq : 0 ≤ rd ∧ rd ≤ 1000000) (bp : 0 ≤ pa ∧ pa ≤ 1000000) (bt : 0 ≤ ta ∧ ta ≤ 1000000) (bd : 0 ≤ dr ∧ dr ≤ 1000000) (v : Int) (hv : cz.last S t z = v) :
    Calls Tryz.prog 11 #[.pointer (some ⟨Q, 0, none⟩), .int .i64 t, .int .i64 0, .slice (some ⟨bb, 0, none⟩) 53 cc] w fun e w' => ∃ r, e = .returned (.tuple #[r, .int .i64 0]) ∧ SentAt w' w.heap.size v l ps r ∧ Pln1 lo hi Q cz (cz.nxt S t z) (c0 + 1) (c1 + hit v 1) (c2 + hit v 2) (c3 + hit v 3) (rr + oneIf F) rd sy t sp id (pa + hit v 1) (ta + hit v 2) (dr + hit v 3) w' ∧ ChgL (fun j => lo ≤ j ∧ j < hi) w w' := by
  obtain ⟨N, T, W, cm, L, cap, K, y, A, a, b, pl, ph, hP⟩ := h
  have hmv := hP.mv
  exact (arrive_at lo hi Q N T W cm L cap K y A a b pl ph cz S c0 c1 c2 c3 rr rd rc now sp id pa ta dr t l zs ps F sy bb cc w hP hhi t0 t1 hz hc1 hc2 hout hd hl hlp hbp z hzz hM b0 b1 b2 b3 br bq bp bt bd v hv).mono fun _ _ ⟨r, h1, h2, h3, h4⟩ => ⟨r, h1, h2, ⟨N, T, W, cm, L, cap, K, y, A, a, b, pl, ph, h3⟩, h4.mono hmv⟩
theorem arrive_sentH (x1 x2 lo hi Q : Nat) (cz : Pz) (S : S4) (c0 c1 c2 c3 rr rd : Int) (rc : Bool) (now sp id pa ta dr t l : Int) (zs ps : List Int) (F sy : Bool) (bb cc : Nat) (w : World) (h : Pln1H x1 x2 lo hi Q cz S c0 c1 c2 c3 rr rd rc now sp id pa ta dr w) (hhi : hi ≤ w.heap.size) (t0 : now ≤ t) (t1 : t ≤ 1152921504606846976)
    (hz : BytesAt w (some ⟨bb, 0, none⟩) 53 zs) (hc1 : 53 ≤ cc) (hc2 : cc ≤ 9223372036854775807) (hout : bb < lo ∨ hi ≤ bb) (hd : Told rc zs 0 0 40 0 l ps F sy) (hl : l = 0 ∨ l = 1) (hlp : Hid (ps.length = 48)) (hbp : Hid (allB ps)) (z : Bool) (hzz : (l == 0) = z)
    (hM : S.Bd 2305843009213693952) (b0 : 0 ≤ c0 ∧ c0 ≤ 1000000) (b1 : 0 ≤ c1 ∧ c1 ≤ 1000000) (b2 : 0 ≤ c2 ∧ c2 ≤ 1000000) (b3 : 0 ≤ c3 ∧ c3 ≤ 1000000) (br : 0 ≤ rr ∧ rr ≤ 1000000) (bq : 0 ≤ rd ∧ rd ≤ 1000000) (bp : 0 ≤ pa ∧ pa ≤ 1000000) (bt : 0 ≤ ta ∧ ta ≤ 1000000) (bd : 0 ≤ dr ∧ dr ≤ 1000000) (v : Int) (hv : cz.last S t z = v) :
    Calls Tryz.prog 11 #[.pointer (some ⟨Q, 0, none⟩), .int .i64 t, .int .i64 0, .slice (some ⟨bb, 0, none⟩) 53 cc] w fun e w' => ∃ r, e = .returned (.tuple #[r, .int .i64 0]) ∧ SentAt w' w.heap.size v l ps r ∧ Pln1H x1 x2 lo hi Q cz (cz.nxt S t z) (c0 + 1) (c1 + hit v 1) (c2 + hit v 2) (c3 + hit v 3) (rr + oneIf F) rd sy t sp id (pa + hit v 1) (ta + hit v 2) (dr + hit v 3) w' ∧ ChgL (fun j => (lo ≤ j ∧ j < hi) ∧ Out x1 x2 j) w w' := by
  obtain ⟨N, T, W, cm, L, cap, K, y, A, a, b, pl, ph, hP, hx⟩ := h
  have hmv := hP.mv
  exact (arrive_at lo hi Q N T W cm L cap K y A a b pl ph cz S c0 c1 c2 c3 rr rd rc now sp id pa ta dr t l zs ps F sy bb cc w hP hhi t0 t1 hz hc1 hc2 hout hd hl hlp hbp z hzz hM b0 b1 b2 b3 br bq bp bt bd v hv).mono fun _ _ ⟨r, h1, h2, h3, h4⟩ => ⟨r, h1, h2, ⟨N, T, W, cm, L, cap, K, y, A, a, b, pl, ph, h3, hx⟩, h4.mono (fun j hj => ⟨hmv j hj, hx j (.inl hj)⟩)⟩
end Go.Proofs.YtaoagbnhomjkpaaGreat

/- What the laws of the whole begin with. -/
namespace Go.Proofs.YtaoagbnhomjkpaaGreat
set_option linter.unusedVariables false
set_option linter.unusedSimpArgs false
open Go.RowKit
set_option maxRecDepth 100000
set_option maxHeartbeats 4000000
def z48t : List Int := List.replicate 48 0
theorem z48t_len : z48t.length = 48 := by kernel_rfl
theorem z48t_B : allB z48t := fun z hz => by
  have := List.eq_of_mem_replicate hz
  subst this
  unfold isB
  omega
theorem chg_in {lo hi B : Nat} {w w' : World} (h : ChgL (fun j => lo ≤ j ∧ j < hi) w w') (hB : B ≤ lo) (hw : B ≤ w.heap.size) : Below B w w' := h.below (fun k hk => by omega) hw
/-- the word of the law's cell: channel 40, loss priority l. -/
def wIn (l : Int) : Int := wordH false 0 0 40 0 l
theorem told_in (l : Int) (hl : l = 0 ∨ l = 1) (ps : List Int) (rc : Bool) : Told rc (cellZ (wIn l) ps) 0 0 40 0 l ps false false := by
  have e : (cellZ (wIn l) ps).take 5 = headZ (wIn l) := rfl
  have e2 : (cellZ (wIn l) ps).drop 5 = ps := rfl
  unfold Told
  rw [e, e2]
  rcases hl with rfl | rfl <;> cases rc <;> exact ⟨by kernel_rfl, by kernel_rfl, by kernel_rfl, by kernel_rfl, by kernel_rfl, by kernel_rfl, by kernel_rfl, by kernel_rfl, rfl⟩
theorem Pln1.below {lo hi Q : Nat} {cz : Pz} {S : S4} {c0 c1 c2 c3 rr rd : Int} {rc : Bool} {now sp id pa ta dr : Int} {w w' : World} (h : Pln1 lo hi Q cz S c0 c1 c2 c3 rr rd rc now sp id pa ta dr w) (hb : Below w.heap.size w w') : Pln1 lo hi Q cz S c0 c1 c2 c3 rr rd rc now sp id pa ta dr w' := by
  obtain ⟨N, T, W, cm, L, cap, K, y, A, a, b, pl, ph, hP⟩ := h
  have hP : PlAt lo hi Q N T W cm L cap K y A a b pl ph cz S c0 c1 c2 c3 rr rd rc now sp id pa ta dr w := hP
  exact ⟨N, T, W, cm, L, cap, K, y, A, a, b, pl, ph, hP.below hb⟩
theorem zeros48 : Hid ((#[.int .u8 0, .int .u8 0, .int .u8 0, .int .u8 0, .int .u8 0, .int .u8 0, .int .u8 0, .int .u8 0, .int .u8 0, .int .u8 0, .int .u8 0, .int .u8 0, .int .u8 0, .int .u8 0, .int .u8 0, .int .u8 0, .int .u8 0, .int .u8 0, .int .u8 0, .int .u8 0, .int .u8 0, .int .u8 0, .int .u8 0, .int .u8 0, .int .u8 0, .int .u8 0, .int .u8 0, .int .u8 0, .int .u8 0, .int .u8 0, .int .u8 0, .int .u8 0, .int .u8 0, .int .u8 0, .int .u8 0, .int .u8 0, .int .u8 0, .int .u8 0, .int .u8 0, .int .u8 0, .int .u8 0, .int .u8 0, .int .u8 0, .int .u8 0, .int .u8 0, .int .u8 0, .int .u8 0, .int .u8 0] : Array Value) = (u8s z48t).toArray) := Lib.hid (by kernel_rfl)
theorem hwIn (l : Int) : Hid (wordH false 0 0 40 0 l = wIn l) := Lib.hid rfl
theorem sent_one {w : World} {lo : Nat} {v l : Int} {ps : List Int} {r : Value} (h : SentAt w lo v l ps r) (hv : v ≠ 3) : OutAt w lo r (cellZ (wordH false 0 0 50 0 (if v = 2 then 1 else l)) ps) := by
  rcases h with ⟨h, _⟩ | ⟨_, h⟩
  · exact absurd h hv
  · exact h
theorem alive_any (w : World) : Calls Tryz.prog 6 #[] w fun e w' => e = .returned (.bool true) ∧ Below w.heap.size w w' := by
  have hR : rightZ 6 5 0 0 0 0 = 0 := by kernel_rfl
  have hn : needZ 6 5 0 0 0 0 = 0 := by kernel_rfl
  have hr : rightH false 0 0 40 0 0 = true := by kernel_rfl
  have hv : (pzOf 6 5 0 0 0).last S4.zero 0 true = 1 := by kernel_rfl
  have hM : S4.zero.Bd 2305843009213693952 := by unfold S4.Bd S4.zero; decide
  have hlp : Hid (z48t.length = 48) := z48t_len
  have hbp : Hid (allB z48t) := z48t_B
  have hT := told_in 0 (.inl rfl) z48t false
  have BV : Below w.heap.size w (w.alloc (.cells #[.int .i64 10, .int .i64 10] 3)) := (Below.refl _ _).alloc (Nat.le_refl _) _
  go_enter Tryz.func6, Tryz.ntmps6
  go_wp2_with (first
    | (go_at_call 8; (with_reducible refine (newP_any w.heap.size 10 _ (cell_top rfl rfl) (cell_top rfl rfl) (by omega) (by omega)).mono ?_); rintro e w1 ⟨Q, rfl, H1, b1⟩; have B1 := BV.trans (b1.mono BV.size); have z1 := b1.size)
    | (go_at_call 9; (with_reducible refine (open_ok _ _ Q 10 6 5 0 0 0 0 _ H1 (Nat.le_refl _) (by omega) (by omega) hR (by rw [hn]; omega) (by rw [hn]; omega)).mono ?_); rintro e w2 ⟨rfl, H2, c2⟩; have z2 := c2.size; have B2 := B1.trans (chg_in c2 BV.size B1.size))
    | (go_at_call 10; (with_reducible refine (bytes_any 40 0 0 (wIn 0) z48t _ _ zeros48 hlp hbp hr (hwIn 0)).mono ?_); rintro e w3 ⟨b, cap, rfl, hc, g3⟩; have H3 := H2.below g3; have hlow := hc.low; have z3 := g3.size; have B3 := B2.trans (g3.mono B2.size))
    | (go_at_call 11; (with_reducible refine (arrive_sent _ _ Q (pzOf 6 5 0 0 0) S4.zero 0 0 0 0 0 0 false 0 0 0 0 0 0 0 0 (cellZ (wIn 0) z48t) z48t false false b cap _ H3 z3 (by omega) (by omega) hc.bytes hc.cap1 hc.cap2 (.inr hlow) hT (.inl rfl) hlp hbp true rfl hM (by omega) (by omega) (by omega) (by omega) (by omega) (by omega) (by omega) (by omega) (by omega) 1 hv).mono ?_); rintro e w4 ⟨r, rfl, hs, H4, c4⟩; obtain ⟨o, b2, cp2, rfl, _⟩ := sent_one hs (by omega)))
  go_ret
  exact ⟨rfl, B3.trans (chg_in c4 BV.size B3.size)⟩
end Go.Proofs.YtaoagbnhomjkpaaGreat

/- police: Counts; what holds for none. -/
namespace Go.Proofs.YtaoagbnhomjkpaaGreat
set_option linter.unusedVariables false
set_option linter.unusedSimpArgs false
open Go.RowKit
set_option maxRecDepth 100000
set_option maxHeartbeats 4000000
theorem counts_any {p ra len cap : Nat} {al : Bool} {l : List Rs} {σ : Bst} {c0 c1 c2 c3 : Int} (w : World) (hP : PolAt w p ra len cap al l σ c0 c1 c2 c3) :
    Calls Tryz.prog 17 #[.pointer (some ⟨p, 0, none⟩)] w fun e w' => e = .returned (.agg #[.int .i64 c0, .int .i64 c1, .int .i64 c2, .int .i64 c3]) ∧ Below w.heap.size w w' := by
  obtain ⟨k0, k1, k2, k3, k4, k5, hf⟩ := hP.cells
  have hl := hP.lt
  go_enter Tryz.func17, Tryz.ntmps17
  go_wp2
  (try simp only [Exit.inBlock, Exit.then])
  refine bodyPost_ret (results_cell rfl _ _ rfl (v := .agg #[.int .i64 _, .int .i64 _, .int .i64 _, .int .i64 _]) ?_) rfl ⟨rfl, by (repeat' (first | exact Below.refl _ _ | assumption | (refine Below.grown ?_ (by assumption) (by first | omega | (simp; omega)) (by simp [Value.ownBlock]; try omega)) | (refine below_drewN ?_ _) | (refine Below.drew ?_) | (refine Below.alloc ?_ (by first | omega | (simp; done) | (simp; omega)) _) | (refine Below.setCell ?_ (by first | omega | (simp; done) | (simp; omega)) _) | (refine below_then ?_ (Aft.below _)) | (apply below_then; rotate_left; assumption)))⟩
  exact run_loadVar_row _ _ _ _ _ _ _ (heap_alloc_new w _) Tryz.underlying66 rfl (by kernel_rfl)
theorem counts_S {lo hi : Nat} {c : Pz} {S : S4} {c0 c1 c2 c3 : Int} {P : Nat} (w : World) (h : PolS lo hi c S c0 c1 c2 c3 P w) :
    Calls Tryz.prog 17 #[.pointer (some ⟨P, 0, none⟩)] w fun e w' => e = .returned (.agg #[.int .i64 c0, .int .i64 c1, .int .i64 c2, .int .i64 c3]) ∧ Below w.heap.size w w' := by
  obtain ⟨ra, cap, d1, d2, hn, h1, h2, h3, h4, ok, hP⟩ := h
  exact counts_any w hP
theorem counts_nil (w : World) :
    Calls Tryz.prog 17 #[.pointer none] w fun e w' => e = .returned (.agg #[.int .i64 0, .int .i64 0, .int .i64 0, .int .i64 0]) ∧ Below w.heap.size w w' := by
  go_enter Tryz.func17, Tryz.ntmps17
  go_wp2
  (try simp only [Exit.inBlock, Exit.then])
  refine bodyPost_ret (results_cell rfl _ _ rfl (v := .agg #[.int .i64 _, .int .i64 _, .int .i64 _, .int .i64 _]) ?_) rfl ⟨rfl, by (repeat' (first | exact Below.refl _ _ | assumption | (refine Below.grown ?_ (by assumption) (by first | omega | (simp; omega)) (by simp [Value.ownBlock]; try omega)) | (refine below_drewN ?_ _) | (refine Below.drew ?_) | (refine Below.alloc ?_ (by first | omega | (simp; done) | (simp; omega)) _) | (refine Below.setCell ?_ (by first | omega | (simp; done) | (simp; omega)) _) | (refine below_then ?_ (Aft.below _)) | (apply below_then; rotate_left; assumption)))⟩
  exact run_loadVar_row _ _ _ _ _ _ _ (heap_alloc_new w _) Tryz.underlying66 rfl (by kernel_rfl)
theorem take_nil (t clp : Int) (w : World) :
    Calls Tryz.prog 15 #[.pointer none, .int .i64 t, .int .i64 clp] w fun e w' => e = .returned (.int .i64 3) ∧ Below w.heap.size w w' := by
  go_enter Tryz.func15, Tryz.ntmps15
  go_wp2
  go_ret
  exact ⟨rfl, by (repeat' (first | exact Below.refl _ _ | assumption | (refine Below.grown ?_ (by assumption) (by first | omega | (simp; omega)) (by simp [Value.ownBlock]; try omega)) | (refine below_drewN ?_ _) | (refine Below.drew ?_) | (refine Below.alloc ?_ (by first | omega | (simp; done) | (simp; omega)) _) | (refine Below.setCell ?_ (by first | omega | (simp; done) | (simp; omega)) _) | (refine below_then ?_ (Aft.below _)) | (apply below_then; rotate_left; assumption)))⟩
end Go.Proofs.YtaoagbnhomjkpaaGreat

/- What the laws of the layer 'police' begin with. -/
namespace Go.Proofs.YtaoagbnhomjkpaaGreat
set_option linter.unusedVariables false
set_option linter.unusedSimpArgs false
open Go.RowKit
set_option maxRecDepth 100000
set_option maxHeartbeats 4000000
theorem take_at {lo hi : Nat} {c : Pz} {S S' : S4} {c0 c1 c2 c3 d0 d1 d2 d3 : Int} {P : Nat} {t clp v : Int} {z : Bool} {w : World} (hz : (clp == 0) = z) (h : PolS lo hi c S c0 c1 c2 c3 P w) (hM : S.Bd 2305843009213693952) (b0 : 0 ≤ c0 ∧ c0 ≤ 1000000) (b1 : 0 ≤ c1 ∧ c1 ≤ 1000000) (b2 : 0 ≤ c2 ∧ c2 ≤ 1000000) (b3 : 0 ≤ c3 ∧ c3 ≤ 1000000) (hv : c.last S t z = v) (hS : c.nxt S t z = S')
    (e0 : c0 + 1 = d0) (e1 : c1 + hit v 1 = d1) (e2 : c2 + hit v 2 = d2) (e3 : c3 + hit v 3 = d3) :
    Calls Tryz.prog 15 #[.pointer (some ⟨P, 0, none⟩), .int .i64 t, .int .i64 clp] w fun e w' => e = .returned (.int .i64 v) ∧ PolS lo hi c S' d0 d1 d2 d3 P w' ∧ ChgL (fun k => lo ≤ k ∧ k < hi) w w' := by
  subst hv hS e0 e1 e2 e3
  exact take_S t clp z hz w h hM b0 b1 b2 b3
theorem bel_of {B lo hi : Nat} {w w' : World} (h : ChgL (fun k => lo ≤ k ∧ k < hi) w w') (hB : B ≤ lo) (hw : B ≤ w.heap.size) : Below B w w' := h.below (fun k hk => by omega) hw
end Go.Proofs.YtaoagbnhomjkpaaGreat

/- Cells with gaps in memory; their times. -/
namespace Go.Proofs.YtaoagbnhomjkpaaGreat
set_option linter.unusedVariables false
set_option linter.unusedSimpArgs false
open Go.RowKit
structure Cl where
  g : Int
  low : Bool
structure ClAt (w : World) (a : Option Addr) (len : Nat) (cs : List Cl) : Prop where
  length : cs.length = len
  fine : ∀ x ∈ cs, 0 ≤ x.g ∧ x.g < 4294967296
  cells : 0 < len → ∃ b off, a = some ⟨b, off, none⟩ ∧ b < w.heap.size ∧ ∀ i x, cs[i]? = some x → w.cell? ⟨b, off + i * 2, none⟩ = some (.int .u32 x.g) ∧ w.cell? ⟨b, off + i * 2 + 1, none⟩ = some (.bool x.low)
theorem ClAt.below {w w' : World} {a : Option Addr} {len : Nat} {cs : List Cl} (h : ClAt w a len cs) (hb : Below w.heap.size w w') : ClAt w' a len cs :=
  ⟨h.length, h.fine, fun hp => by
    obtain ⟨b, off, e1, e2, e3⟩ := h.cells hp
    exact ⟨b, off, e1, Nat.lt_of_lt_of_le e2 hb.size, fun i x hx => ⟨(hb.cell (p := ⟨b, _, none⟩) e2).trans (e3 i x hx).1, (hb.cell (p := ⟨b, _, none⟩) e2).trans (e3 i x hx).2⟩⟩⟩
/-- a contract's six cells. -/
def Box6 (k p e wh b l : Int) (q : Nat) (w : World) : Prop := w.cell? ⟨q, 0, none⟩ = some (.int .i64 k) ∧ w.cell? ⟨q, 1, none⟩ = some (.int .i64 p) ∧ w.cell? ⟨q, 2, none⟩ = some (.int .i64 e) ∧ w.cell? ⟨q, 3, none⟩ = some (.int .i64 wh) ∧ w.cell? ⟨q, 4, none⟩ = some (.int .i64 b) ∧ w.cell? ⟨q, 5, none⟩ = some (.int .i64 l)
theorem Box6.below {k p e wh b l : Int} {q : Nat} {w w' : World} (h : Box6 k p e wh b l q w) (hb : Below w.heap.size w w') : Box6 k p e wh b l q w' :=
  ⟨cell_keep hb h.1, cell_keep hb h.2.1, cell_keep hb h.2.2.1, cell_keep hb h.2.2.2.1, cell_keep hb h.2.2.2.2.1, cell_keep hb h.2.2.2.2.2⟩
theorem Box6.new (k p e wh b l : Int) (t : TypeId) (w : World) : Box6 k p e wh b l w.heap.size (w.alloc (.cells #[.int .i64 k, .int .i64 p, .int .i64 e, .int .i64 wh, .int .i64 b, .int .i64 l] t)) :=
  ⟨cell_top rfl rfl, cell_top rfl rfl, cell_top rfl rfl, cell_top rfl rfl, cell_top rfl rfl, cell_top rfl rfl⟩
theorem Box6.lt {k p e wh b l : Int} {q : Nat} {w : World} (h : Box6 k p e wh b l q w) : q < w.heap.size := World.block_lt_of_cell? _ _ h.1
/-- the sum of the gaps. -/
def gapS (cs : List Cl) : Int := (cs.map Cl.g).sum
theorem gapS_step {cs : List Cl} {k : Nat} {x : Cl} (h : cs[k]? = some x) : gapS (cs.take (k + 1)) = gapS (cs.take k) + x.g := by
  unfold gapS
  rw [List.take_add_one, h, List.map_append, List.sum_append]; simp
theorem gapS_bd {cs : List Cl} (h : ∀ x ∈ cs, 0 ≤ x.g ∧ x.g < 4294967296) : ∀ k, 0 ≤ gapS (cs.take k) ∧ gapS (cs.take k) ≤ 4294967296 * (k : Int) := by
  intro k
  induction k with
  | zero => simp [gapS]
  | succ k ih =>
    cases hx : cs[k]? with
    | none =>
      have : cs.take (k + 1) = cs.take k := by rw [List.take_add_one, hx]; simp
      rw [this]; omega
    | some x =>
      rw [gapS_step hx]
      have := h x (List.mem_of_getElem? hx)
      omega
/-- numbers in a row. -/
structure U16At (w : World) (a : Option Addr) (len : Nat) (zs : List Int) : Prop where
  length : zs.length = len
  fine : ∀ z ∈ zs, 0 ≤ z ∧ z < 65536
  cells : 0 < len → ∃ b off, a = some ⟨b, off, none⟩ ∧ b < w.heap.size ∧ ∀ i z, zs[i]? = some z → w.cell? ⟨b, off + i, none⟩ = some (.int .u16 z)
theorem U16At.below {w w' : World} {a : Option Addr} {len : Nat} {zs : List Int} (h : U16At w a len zs) (hb : Below w.heap.size w w') : U16At w' a len zs :=
  ⟨h.length, h.fine, fun hp => by
    obtain ⟨b, off, e1, e2, e3⟩ := h.cells hp
    exact ⟨b, off, e1, Nat.lt_of_lt_of_le e2 hb.size, fun i z hz => (hb.cell (p := ⟨b, _, none⟩) e2).trans (e3 i z hz)⟩⟩
theorem sumZ_step {zs : List Int} {k : Nat} {z : Int} (h : zs[k]? = some z) : (zs.take (k + 1)).sum = (zs.take k).sum + z := by
  rw [List.take_add_one, h, List.sum_append]; simp
theorem sumZ_bd {zs : List Int} (h : ∀ x ∈ zs, 0 ≤ x ∧ x < 65536) : ∀ k, 0 ≤ (zs.take k).sum ∧ (zs.take k).sum ≤ 65536 * (k : Int) := by
  intro k
  induction k with
  | zero => simp
  | succ k ih =>
    cases hx : zs[k]? with
    | none =>
      have e : zs.take (k + 1) = zs.take k := by rw [List.take_add_one, hx]; simp
      rw [e]; omega
    | some x =>
      rw [sumZ_step hx]
      have := h x (List.mem_of_getElem? hx)
      omega
end Go.Proofs.YtaoagbnhomjkpaaGreat
