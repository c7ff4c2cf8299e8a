import Derived.Test.YtaoagbnhomjkpaaGreatZTopRates00
import Derived.Test.YtaoagbnhomjkpaaGreatZTopRates08
import Derived.Test.YtaoagbnhomjkpaaGreatZTopRates15
/- plane: a cell comes. -/
namespace Go.Proofs.YtaoagbnhomjkpaaGreat
set_option linter.unusedVariables false
set_option linter.unusedSimpArgs false
open Go.RowKit
set_option maxRecDepth 100000
set_option maxHeartbeats 4000000
/-- what Arrive sends, by the verdict. -/
def SentAt (w : World) (lo : Nat) (v l : Int) (ps : List Int) (r : Value) : Prop := (v = 3 ∧ r = .slice none 0 0) ∨ (v ≠ 3 ∧ OutAt w lo r (cellZ (wordH false 0 0 50 0 (if v = 2 then 1 else l)) ps))
theorem pass_any (lo hi Q N T W cm L cap K y A a b pl ph : Nat) (cz : Pz) (S : S4) (c0 c1 c2 c3 rr rd : Int) (rc : Bool) (now sp id pa ta dr l : Int) (ps : List Int) (X : Array Value) (w : World) (h : PlAt lo hi Q N T W cm L cap K y A a b pl ph cz S c0 c1 c2 c3 rr rd rc now sp id pa ta dr w) (hhi : hi ≤ w.heap.size) (hX : Hid (X = (cellV 0 0 40 0 l ps).toArray)) (hlp : Hid (ps.length = 48)) (hbp : Hid (allB ps)) (hl : l = 0 ∨ l = 1)
    (z : Bool) (hz : (l == 0) = z) (hM : S.Bd 2305843009213693952) (b0 : 0 ≤ c0 ∧ c0 ≤ 1000000) (b1 : 0 ≤ c1 ∧ c1 ≤ 1000000) (b2 : 0 ≤ c2 ∧ c2 ≤ 1000000) (b3 : 0 ≤ c3 ∧ c3 ≤ 1000000) (bp : 0 ≤ pa ∧ pa ≤ 1000000) (bt : 0 ≤ ta ∧ ta ≤ 1000000) (bd : 0 ≤ dr ∧ dr ≤ 1000000) (v : Int) (hv : cz.last S now z = v) :
    Calls Tryz.prog 40 #[.pointer (some ⟨Q, 0, none⟩), .pointer (some ⟨y, 0, none⟩), .agg X, .bool true] w fun e w' => ∃ r, e = .returned r ∧ SentAt w' w.heap.size v l ps r ∧ PlAt lo hi Q N T W cm L cap K y A a b pl ph cz (cz.nxt S now z) (c0 + 1) (c1 + hit v 1) (c2 + hit v 2) (c3 + hit v 3) rr rd rc now sp id (pa + hit v 1) (ta + hit v 2) (dr + hit v 3) w' ∧ ChgL (Mv Q K A a b pl ph) w w' := by
  have r1 : rightH false 0 0 50 0 1 = true := by kernel_rfl
  have r0 : rightH false 0 0 50 0 0 = true := by kernel_rfl
  have rl : rightH false 0 0 50 0 l = true := by rcases hl with rfl | rfl; exact r0; exact r1
  have h0 : ∀ x : Int, x + 0 = x := fun x => by omega
  rcases last_ex cz S now z with e | e | e <;> (rw [e] at hv; subst hv)
  · refine (pass_pass lo hi Q N T W cm L cap K y A a b pl ph cz S c0 c1 c2 c3 rr rd rc now sp id pa ta dr 0 l ps X w h hhi hX hlp hbp z hz hM b0 b1 b2 b3 bp e rl _ (Lib.hid rfl)).mono ?_
    rintro e w' ⟨⟨r, rfl, ho⟩, hP, hC⟩
    refine ⟨r, rfl, .inr ⟨by decide, ho⟩, ?_, hC⟩
    simpa [hit] using hP
  · refine (pass_tag lo hi Q N T W cm L cap K y A a b pl ph cz S c0 c1 c2 c3 rr rd rc now sp id pa ta dr 0 l ps X w h hhi hX hlp hbp z hz hM b0 b1 b2 b3 bt e r1 _ (Lib.hid rfl)).mono ?_
    rintro e w' ⟨⟨r, rfl, ho⟩, hP, hC⟩
    refine ⟨r, rfl, .inr ⟨by decide, ho⟩, ?_, hC⟩
    simpa [hit] using hP
  · refine (pass_drop lo hi Q N T W cm L cap K y A a b pl ph cz S c0 c1 c2 c3 rr rd rc now sp id pa ta dr 0 l ps X w h hhi hX hlp hbp z hz hM b0 b1 b2 b3 bd e).mono ?_
    rintro e w' ⟨rfl, hP, hC⟩
    refine ⟨_, rfl, .inl ⟨rfl, rfl⟩, ?_, hC⟩
    simpa [hit] using hP
theorem comes_ok (Q N T W cm : Nat) (ls : Value) (nx now sp id pa ta dr t : Int) (w : World) (h : PlnRow w Q N T W cm ls nx now sp id pa ta dr) (t0 : now ≤ t) (t1 : t ≤ 1152921504606846976) :
    Calls Tryz.prog 35 #[.pointer (some ⟨Q, 0, none⟩), .int .i64 t] w fun e w' => e = .returned (.int .i64 0) ∧ w = w' := by
  have c10 := h.c10
  go_enter Tryz.func35, Tryz.ntmps35
  go_wp2
  all_goals first
    | (go_ret
       exact ⟨rfl, rfl⟩)
    | (exfalso; omega)
theorem hdr_of {w : World} {b : Nat} {X : Array Value} {g p c t l : Int} {ps : List Int} (h : w.rangeAt b 0 X.toList) (hX : Hid (X = (cellV g p c t l ps).toArray)) :
    w.cell? ⟨b, 0, none⟩ = some (.int .i64 g) ∧ w.cell? ⟨b, 1, none⟩ = some (.int .i64 p) ∧ w.cell? ⟨b, 2, none⟩ = some (.int .i64 c) ∧ w.cell? ⟨b, 3, none⟩ = some (.int .i64 t) ∧ w.cell? ⟨b, 4, none⟩ = some (.int .i64 l) := by
  rw [hX.out] at h
  exact ⟨h 0 _ rfl, h 1 _ rfl, h 2 _ rfl, h 3 _ rfl, h 4 _ rfl⟩
/-- a cell's bytes tell this header and payload to a receiver. -/
def Told (rc : Bool) (zs : List Int) (g p c t l : Int) (ps : List Int) (F sy : Bool) : Prop :=
  drops rc (zs.take 5) = false ∧ fixes rc (zs.take 5) = F ∧ (synd (zs.take 5) != 0) = sy ∧ uG false (takes rc (zs.take 5)) = g ∧ uP false (takes rc (zs.take 5)) = p ∧ uC (takes rc (zs.take 5)) = c ∧ uT (takes rc (zs.take 5)) = t ∧ uL (takes rc (zs.take 5)) = l ∧ zs.drop 5 = ps
theorem parseX (K : Nat) (rr rd : Int) (rc : Bool) (b cap : Nat) (zs : List Int) (g p c t l : Int) (ps : List Int) (F sy : Bool) (X : Array Value) (w : World) (hX : Hid (X = (cellV g p c t l ps).toArray)) (h : RecAt w K rr rd rc) (r0 : 0 ≤ rr ∧ rr ≤ 1000000) (d0 : 0 ≤ rd ∧ rd ≤ 1000000) (hz : BytesAt w (some ⟨b, 0, none⟩) 53 zs) (hc1 : 53 ≤ cap) (hc2 : cap ≤ 9223372036854775807) (hn : b ≠ K) (hd : Told rc zs g p c t l ps F sy) :
    Calls Tryz.prog 16 #[.slice (some ⟨b, 0, none⟩) 53 cap, .pointer (some ⟨K, 0, none⟩), .bool false] w fun e w' => e = .returned (.tuple #[.agg X, .int .i64 0]) ∧ RecAt w' K (rr + oneIf F) rd sy ∧ Chg K w w' := by
  obtain ⟨h1, h2, h3, h4, h5, h6, h7, h8, h9⟩ := hd
  have hq := cellParse_take K rr rd rc (some ⟨b, 0, none⟩) cap zs false w h r0.1 r0.2 d0.1 d0.2 hz hc1 hc2 (fun b' off e => by injection e with e; injection e with e1 e2; omega) h1
  rw [h1, h2, h3, h4, h5, h6, h7, h8, h9] at hq
  rw [hX.out]
  refine hq.mono ?_
  rintro e w' ⟨rfl, hR, hC⟩
  exact ⟨rfl, by simpa [oneIf] using hR, hC⟩
theorem SentAt.low {w : World} {lo lo' : Nat} {v l : Int} {ps : List Int} {r : Value} (h : SentAt w lo v l ps r) (hl : lo' ≤ lo) : SentAt w lo' v l ps r := by
  rcases h with h | ⟨h1, o, b, cap, h2, h3, h4, h5, h6⟩
  · exact .inl h
  · exact .inr ⟨h1, o, b, cap, h2, h3, h4, ⟨h5.bytes, h5.cap1, h5.cap2, Nat.le_trans hl h5.low⟩, Nat.le_trans hl h6⟩
theorem plAt_rec {lo hi Q N T W cm L cap K y A a b pl ph : Nat} {cz : Pz} {S : S4} {c0 c1 c2 c3 : Int} {rr rd rr' rd' : Int} {rc rc' : Bool} {now sp id pa ta dr : Int} {w w' : World} (h : PlAt lo hi Q N T W cm L cap K y A a b pl ph cz S c0 c1 c2 c3 rr rd rc now sp id pa ta dr w) (g : Chg K w w') (hR : RecAt w' K rr' rd' rc') : PlAt lo hi Q N T W cm L cap K y A a b pl ph cz S c0 c1 c2 c3 rr' rd' rc' now sp id pa ta dr w' := by
  obtain ⟨nQ, nK, ny, nA, ⟨q1, q2, q3⟩, yq⟩ := h.apart
  have C : ChgL (fun j => j = K) w w' := ⟨g.os, g.tape, g.output, g.size, g.block⟩
  exact h.step C (fun j e => .inr (.inl e)) ((C.block Q h.1.lt q1).trans h.1) hR (h.2.2.2.2.2.2.1.block (C.block A h.2.2.2.2.2.2.1.lt (fun e => q3 e.symm))) (h.2.2.2.2.2.2.2.1.other C (fun j e => by rw [e]; exact nK))
theorem out_ne {x lo hi k : Nat} (h : x < lo ∨ hi ≤ x) (d : lo ≤ k ∧ k < hi) : x ≠ k := by omega
theorem plAt_lq {lo hi Q N T W cm L cap K y A a b pl ph : Nat} {cz : Pz} {S : S4} {c0 c1 c2 c3 : Int} {rr rd : Int} {rc : Bool} {now sp id pa ta dr : Int} {w : World} (h : PlAt lo hi Q N T W cm L cap K y A a b pl ph cz S c0 c1 c2 c3 rr rd rc now sp id pa ta dr w) : L ≠ Q := by
  obtain ⟨_, _, _, _, _, _, _, _, _, _, _, _, _, _, _, _, _, _, _, _, _, _, ⟨h, _⟩, _⟩ := h
  exact h
theorem arrive_sent (lo hi Q : Nat) (cz : Pz) (S : S4) (c0 c1 c2 c3 rr rd : Int) (rc : Bool) (now sp id pa ta dr t l : Int) (zs ps : List Int) (F sy : Bool) (bb cc : Nat) (w : World) (h : Pln1 lo hi Q cz S c0 c1 c2 c3 rr rd rc now sp id pa ta dr w) (hhi : hi ≤ w.heap.size) (t0 : now ≤ t) (t1 : t ≤ 1152921504606846976)
    (hz : BytesAt w (some ⟨bb, 0, none⟩) 53 zs) (hc1 : 53 ≤ cc) (hc2 : cc ≤ 9223372036854775807) (hout : bb < lo ∨ hi ≤ bb) (hd : Told rc zs 0 0 40 0 l ps F sy) (hl : l = 0 ∨ l = 1) (hlp : Hid (ps.length = 48)) (hbp : Hid (allB ps)) (z : Bool) (hzz : (l == 0) = z)
    (hM : S.Bd 2305843009213693952) (b0 : 0 ≤ c0 ∧ c0 ≤ 1000000) (b1 : 0 ≤ c1 ∧ c1 ≤ 1000000) (b2 : 0 ≤ c2 ∧ c2 ≤ 1000000) (b3 : 0 ≤ c3 ∧ c3 ≤ 1000000) (br : 0 ≤ rr ∧ rr ≤ 1000000) (bq : 0 ≤ rd ∧ rd ≤ 1000000) (bp : 0 ≤ pa ∧ pa ≤ 1000000) (bt : 0 ≤ ta ∧ ta ≤ 1000000) (bd : 0 ≤ dr ∧ dr ≤ 1000000) (v : Int) (hv : cz.last S t z = v) :
    Calls Tryz.prog 11 #[.pointer (some ⟨Q, 0, none⟩), .int .i64 t, .int .i64 0, .slice (some ⟨bb, 0, none⟩) 53 cc] w fun e w' => ∃ r, e = .returned (.tuple #[r, .int .i64 0]) ∧ SentAt w' w.heap.size v l ps r ∧ Pln1 lo hi Q cz (cz.nxt S t z) (c0 + 1) (c1 + hit v 1) (c2 + hit v 2) (c3 + hit v 3) (rr + oneIf F) rd sy t sp id (pa + hit v 1) (ta + hit v 2) (dr + hit v 3) w' ∧ ChgL (fun j => lo ≤ j ∧ j < hi) w w' := by
  obtain ⟨N, T, W, cm, L, cap, K, y, A, a, b, pl, ph, hP⟩ := h
  have hP : PlAt lo hi Q N T W cm L cap K y A a b pl ph cz S c0 c1 c2 c3 rr rd rc now sp id pa ta dr w := hP
  obtain ⟨X, hX⟩ : ∃ X, Hid (X = (cellV 0 0 40 0 l ps).toArray) := ⟨_, rfl⟩
  have hsx : X.size = 53 := sizeX hX hlp.out
  have hmv := hP.mv
  obtain ⟨nQ, nK, ny, nA, ⟨q1, q2, q3⟩, yq⟩ := hP.apart
  clear ny nA yq
  have dQ := hmv Q (.inl rfl)
  have dK := hmv K (.inr (.inl rfl))
  have nL : L ≠ Q := plAt_lq hP
  have hbQ : bb ≠ Q := out_ne hout dQ
  have hbK : bb ≠ K := out_ne hout dK
  have P0 := hP.1
  have k10 := P0.c10
  have f10 := P0.froz 10
  have CV : ChgL (fun j => j = Q) w (w.setCell ⟨Q, 10, none⟩ (.int .i64 t)) := ChgL.chg ((Chg.refl Q w).setCell 10 _) rfl
  have HV : PlAt lo hi Q N T W cm L cap K y A a b pl ph cz S c0 c1 c2 c3 rr rd rc t sp id pa ta dr (w.setCell ⟨Q, 10, none⟩ (.int .i64 t)) :=
    hP.step CV (fun j e => .inl e) P0.sNow (hP.2.2.1.blk (CV.block K hP.2.2.1.lt (fun e => q1 e.symm))) (hP.2.2.2.2.2.2.1.block (CV.block A hP.2.2.2.2.2.2.1.lt (fun e => q2 e.symm))) (hP.2.2.2.2.2.2.2.1.other CV (fun j e => by rw [e]; exact nQ))
  have c1V := HV.1.c1
  have LV := HV.2.1
  have KV := HV.2.2.1
  have ZV : BytesAt (w.setCell ⟨Q, 10, none⟩ (.int .i64 t)) (some ⟨bb, 0, none⟩) 53 zs := hz.chgU (p := Q) ((Chg.refl Q w).setCell 10 _) (fun b' off e => by injection e with e; injection e with e1 e2; rw [← e1]; exact hbQ)
  have hkd : kindZ 0 40 0 l = 1 := by rcases hl with rfl | rfl; kernel_rfl; kernel_rfl
  have hke : decide (kindZ 0 40 0 l = 2 ∨ kindZ 0 40 0 l = 3) = false := by rw [hkd]; decide
  have HKD := Lib.hid hkd
  have HZZ := Lib.hid hzz
  have HV2 := Lib.hid hv
  have HD := Lib.hid hd
  clear hkd hzz hv hd
  go_enter Tryz.func11, Tryz.ntmps11
  go_wp2_with (first
    | (go_at_call 35; (with_reducible refine (comes_ok Q N T W cm _ 1 now sp id pa ta dr t _ P0 t0 t1).mono ?_); rintro e w0 ⟨rfl, rfl⟩)
    | (go_at_call 27; (with_reducible refine (linked_yes Q N T W cm L cap 1 now sp id pa ta dr _ P0).mono ?_); rintro e w0 ⟨rfl, rfl⟩)
    | (go_at_call 16; (with_reducible refine (parseX K rr rd rc bb cc zs 0 0 40 0 l ps F sy X _ hX KV br bq ZV hc1 hc2 hbK HD.out).mono ?_); rintro e w1 ⟨rfl, hR, g1⟩; have H1 := plAt_rec HV g1 hR)
    | ((with_reducible refine wpList_fill46 X ?_ ?_); (focus (exact ⟨rfl, rfl, hsx, oneX hX, rfl⟩)); intro W2 hs_W2 hb_W2 Y_2; obtain ⟨x0, x1, x2, x3, x4⟩ := hdr_of Y_2 hX)
    | (go_at_call 36; (with_reducible refine (kind_any 0 0 40 0 l _).mono ?_); rw [HKD.out]; rintro e w3 ⟨rfl, g3⟩; have Y_3 := range_below Y_2 g3)
    | ((with_reducible refine wpList_load46 X ?_ ?_); (focus (exact ⟨_, rfl, hsx, (by assumption)⟩)))
    | (go_at_call 37; (with_reducible refine (emptyX_any X 0 0 40 0 l ps _ hX hlp.out hke).mono ?_); rintro e w4 ⟨rfl, g4⟩; have Y_4 := range_below Y_3 g4; clear x0 x1 x2 x3 x4; obtain ⟨x0, x1, x2, x3, x4⟩ := hdr_of Y_4 hX; have H4 := ((H1.below hb_W2).below g3).below g4; have P4 := H4.1; have T4 := H4.2.2.2.1; have W4 := H4.2.2.2.2.1)
    | (go_at_call 29; (with_reducible refine (findP_in1 Q N T W cm y _ 1 t sp id pa ta dr _ P4 T4 W4).mono ?_); rintro e w5 ⟨rfl, g5⟩; have H5 := H4.below g5; have Y_5 := range_below Y_4 g5; have z5 := Nat.le_trans CV.size (Nat.le_trans g1.size (Nat.le_trans hb_W2.size (Nat.le_trans g3.size (Nat.le_trans g4.size g5.size)))); have hhi5 := Nat.le_trans hhi z5)
    | (go_at_call 40; (with_reducible refine (pass_any lo hi Q N T W cm L cap K y A a b pl ph cz S c0 c1 c2 c3 (rr + oneIf F) rd sy t sp id pa ta dr l ps X _ H5 hhi5 hX hlp hbp hl z HZZ.out hM b0 b1 b2 b3 bp bt bd v HV2.out).mono ?_); rintro e w6 ⟨r, rfl, hs, H6, C6⟩))
  go_ret2
  have B15 : Below w1.heap.size w1 w5 := ((hb_W2.trans (g3.mono hb_W2.size)).trans (g4.mono (Nat.le_trans hb_W2.size g3.size))).trans (g5.mono (Nat.le_trans hb_W2.size (Nat.le_trans g3.size g4.size)))
  have CM : ChgL (Mv Q K A a b pl ph) w w6 := (((CV.mono (fun j e => .inl e)).trans (ChgL.chg g1 (.inr (.inl rfl)))).trans (ChgL.of B15)).trans C6
  exact ⟨r, rfl, hs.low z5, ⟨N, T, W, cm, L, cap, K, y, A, a, b, pl, ph, H6⟩, CM.mono (fun j hj => hmv j hj)⟩
end Go.Proofs.YtaoagbnhomjkpaaGreat

/- What the laws of the whole begin with. -/
namespace Go.Proofs.YtaoagbnhomjkpaaGreat
set_option linter.unusedVariables false
set_option linter.unusedSimpArgs false
open Go.RowKit
set_option maxRecDepth 100000
set_option maxHeartbeats 4000000
def z48t : List Int := List.replicate 48 0
theorem z48t_len : z48t.length = 48 := by kernel_rfl
theorem z48t_B : allB z48t := fun z hz => by
  have := List.eq_of_mem_replicate hz
  subst this
  unfold isB
  omega
theorem chg_in {lo hi B : Nat} {w w' : World} (h : ChgL (fun j => lo ≤ j ∧ j < hi) w w') (hB : B ≤ lo) (hw : B ≤ w.heap.size) : Below B w w' := h.below (fun k hk => by omega) hw
/-- the word of the law's cell: channel 40, loss priority l. -/
def wIn (l : Int) : Int := wordH false 0 0 40 0 l
theorem told_in (l : Int) (hl : l = 0 ∨ l = 1) (ps : List Int) (rc : Bool) : Told rc (cellZ (wIn l) ps) 0 0 40 0 l ps false false := by
  have e : (cellZ (wIn l) ps).take 5 = headZ (wIn l) := rfl
  have e2 : (cellZ (wIn l) ps).drop 5 = ps := rfl
  unfold Told
  rw [e, e2]
  rcases hl with rfl | rfl <;> cases rc <;> exact ⟨by kernel_rfl, by kernel_rfl, by kernel_rfl, by kernel_rfl, by kernel_rfl, by kernel_rfl, by kernel_rfl, by kernel_rfl, rfl⟩
theorem Pln1.below {lo hi Q : Nat} {cz : Pz} {S : S4} {c0 c1 c2 c3 rr rd : Int} {rc : Bool} {now sp id pa ta dr : Int} {w w' : World} (h : Pln1 lo hi Q cz S c0 c1 c2 c3 rr rd rc now sp id pa ta dr w) (hb : Below w.heap.size w w') : Pln1 lo hi Q cz S c0 c1 c2 c3 rr rd rc now sp id pa ta dr w' := by
  obtain ⟨N, T, W, cm, L, cap, K, y, A, a, b, pl, ph, hP⟩ := h
  have hP : PlAt lo hi Q N T W cm L cap K y A a b pl ph cz S c0 c1 c2 c3 rr rd rc now sp id pa ta dr w := hP
  exact ⟨N, T, W, cm, L, cap, K, y, A, a, b, pl, ph, hP.below hb⟩
theorem zeros48 : Hid ((#[.int .u8 0, .int .u8 0, .int .u8 0, .int .u8 0, .int .u8 0, .int .u8 0, .int .u8 0, .int .u8 0, .int .u8 0, .int .u8 0, .int .u8 0, .int .u8 0, .int .u8 0, .int .u8 0, .int .u8 0, .int .u8 0, .int .u8 0, .int .u8 0, .int .u8 0, .int .u8 0, .int .u8 0, .int .u8 0, .int .u8 0, .int .u8 0, .int .u8 0, .int .u8 0, .int .u8 0, .int .u8 0, .int .u8 0, .int .u8 0, .int .u8 0, .int .u8 0, .int .u8 0, .int .u8 0, .int .u8 0, .int .u8 0, .int .u8 0, .int .u8 0, .int .u8 0, .int .u8 0, .int .u8 0, .int .u8 0, .int .u8 0, .int .u8 0, .int .u8 0, .int .u8 0, .int .u8 0, .int .u8 0] : Array Value) = (u8s z48t).toArray) := Lib.hid (by kernel_rfl)
theorem hwIn (l : Int) : Hid (wordH false 0 0 40 0 l = wIn l) := Lib.hid rfl
theorem sent_one {w : World} {lo : Nat} {v l : Int} {ps : List Int} {r : Value} (h : SentAt w lo v l ps r) (hv : v ≠ 3) : OutAt w lo r (cellZ (wordH false 0 0 50 0 (if v = 2 then 1 else l)) ps) := by
  rcases h with ⟨h, _⟩ | ⟨_, h⟩
  · exact absurd h hv
  · exact h
theorem alive_any (w : World) : Calls Tryz.prog 6 #[] w fun e w' => e = .returned (.bool true) ∧ Below w.heap.size w w' := by
  have hR : rightZ 6 5 0 0 0 0 = 0 := by kernel_rfl
  have hn : needZ 6 5 0 0 0 0 = 0 := by kernel_rfl
  have hr : rightH false 0 0 40 0 0 = true := by kernel_rfl
  have hv : (pzOf 6 5 0 0 0).last S4.zero 0 true = 1 := by kernel_rfl
  have hM : S4.zero.Bd 2305843009213693952 := by unfold S4.Bd S4.zero; decide
  have hlp : Hid (z48t.length = 48) := z48t_len
  have hbp : Hid (allB z48t) := z48t_B
  have hT := told_in 0 (.inl rfl) z48t false
  have BV : Below w.heap.size w (w.alloc (.cells #[.int .i64 10, .int .i64 10] 3)) := (Below.refl _ _).alloc (Nat.le_refl _) _
  go_enter Tryz.func6, Tryz.ntmps6
  go_wp2_with (first
    | (go_at_call 8; (with_reducible refine (newP_any w.heap.size 10 _ (cell_top rfl rfl) (cell_top rfl rfl) (by omega) (by omega)).mono ?_); rintro e w1 ⟨Q, rfl, H1, b1⟩; have B1 := BV.trans (b1.mono BV.size); have z1 := b1.size)
    | (go_at_call 9; (with_reducible refine (open_ok _ _ Q 10 6 5 0 0 0 0 _ H1 (Nat.le_refl _) (by omega) (by omega) hR (by rw [hn]; omega) (by rw [hn]; omega)).mono ?_); rintro e w2 ⟨rfl, H2, c2⟩; have z2 := c2.size; have B2 := B1.trans (chg_in c2 BV.size B1.size))
    | (go_at_call 10; (with_reducible refine (bytes_any 40 0 0 (wIn 0) z48t _ _ zeros48 hlp hbp hr (hwIn 0)).mono ?_); rintro e w3 ⟨b, cap, rfl, hc, g3⟩; have H3 := H2.below g3; have hlow := hc.low; have z3 := g3.size; have B3 := B2.trans (g3.mono B2.size))
    | (go_at_call 11; (with_reducible refine (arrive_sent _ _ Q (pzOf 6 5 0 0 0) S4.zero 0 0 0 0 0 0 false 0 0 0 0 0 0 0 0 (cellZ (wIn 0) z48t) z48t false false b cap _ H3 z3 (by omega) (by omega) hc.bytes hc.cap1 hc.cap2 (.inr hlow) hT (.inl rfl) hlp hbp true rfl hM (by omega) (by omega) (by omega) (by omega) (by omega) (by omega) (by omega) (by omega) (by omega) 1 hv).mono ?_); rintro e w4 ⟨r, rfl, hs, H4, c4⟩; obtain ⟨o, b2, cp2, rfl, _⟩ := sent_one hs (by omega)))
  go_ret
  exact ⟨rfl, B3.trans (chg_in c4 BV.size B3.size)⟩
end Go.Proofs.YtaoagbnhomjkpaaGreat

/- Plain laws of rates in sixteen bits: what a code's scaled rate is, the greatest code that isn't above a rate, and a rate's step. No program is in sight here. -/
namespace Go.Proofs.YtaoagbnhomjkpaaGreat
def scl (c : Nat) : Nat := if c / 16384 % 2 = 0 then 0 else (512 + c % 512) * 2 ^ (c / 512 % 32)
def codE (n : Nat) : Nat := min (Nat.log2 n) 31
def cod (n : Nat) : Nat := 16384 + codE n * 512 + min (min n 8589934592 * 512 / 2 ^ codE n) 1023 - 512
def rgt (c : Nat) : Bool := decide (c = 0 ∨ 16384 ≤ c ∧ c < 32768)
def stp (c : Nat) : Nat := if scl c = 0 then 1152921504606846976 else (536870912 + scl c - 1) / scl c
theorem rgt_iff (c : Nat) : rgt c = true ↔ (c = 0 ∨ 16384 ≤ c ∧ c < 32768) := by simp [rgt]

theorem scl_at (e m : Nat) (he : e < 32) (hm : m < 512) : scl (16384 + e * 512 + m) = (512 + m) * 2 ^ e := by
  unfold scl
  rw [if_neg (by omega), show (16384 + e * 512 + m) % 512 = m by omega, show (16384 + e * 512 + m) / 512 % 32 = e by omega]

/-- one step up raises the rate. -/
theorem scl_next (c : Nat) (h1 : 16384 ≤ c) (h2 : c < 32767) : scl (c + 1) = scl c + 2 ^ ((c - 16384) / 512) := by
  obtain ⟨e, m, he, hm, rfl⟩ : ∃ e m, e < 32 ∧ m < 512 ∧ c = 16384 + e * 512 + m := ⟨(c - 16384) / 512, (c - 16384) % 512, by omega, by omega, by omega⟩
  rw [scl_at e m he hm, show (16384 + e * 512 + m - 16384) / 512 = e by omega]
  by_cases h : m + 1 < 512
  · rw [show 16384 + e * 512 + m + 1 = 16384 + e * 512 + (m + 1) by omega, scl_at e (m + 1) he h, show 512 + (m + 1) = 512 + m + 1 by omega, Nat.add_mul _ 1, Nat.one_mul]
  · have : m = 511 := by omega
    subst this
    rw [show 16384 + e * 512 + 511 + 1 = 16384 + (e + 1) * 512 + 0 by omega, scl_at (e + 1) 0 (by omega) (by omega), Nat.pow_succ]
    omega

theorem scl_twice (c : Nat) (h1 : 16384 ≤ c) (h2 : c < 32256) : scl (c + 512) = 2 * scl c := by
  obtain ⟨e, m, he, hm, rfl⟩ : ∃ e m, e < 31 ∧ m < 512 ∧ c = 16384 + e * 512 + m := ⟨(c - 16384) / 512, (c - 16384) % 512, by omega, by omega, by omega⟩
  rw [scl_at e m (by omega) hm, show 16384 + e * 512 + m + 512 = 16384 + (e + 1) * 512 + m by omega, scl_at (e + 1) m (by omega) hm, Nat.pow_succ]
  rw [← Nat.mul_assoc, Nat.mul_comm]
theorem scl_mono {a b : Nat} (h1 : 16384 ≤ a) (h2 : a ≤ b) (h3 : b < 32768) : scl a ≤ scl b := by
  induction b with
  | zero => omega
  | succ b ih =>
    by_cases h : a = b + 1
    · rw [h]; exact Nat.le_refl _
    · have := ih (by omega) (by omega)
      have := scl_next b (by omega) (by omega)
      have := Nat.two_pow_pos ((b - 16384) / 512)
      omega

theorem scl_lt {a b : Nat} (h1 : 16384 ≤ a) (h2 : a < b) (h3 : b < 32768) : scl a < scl b := by
  have h := scl_next a h1 (by omega)
  have := scl_mono (a := a + 1) (b := b) (by omega) h2 h3
  have : 0 < 2 ^ ((a - 16384) / 512) := Nat.two_pow_pos _
  omega

theorem scl_low : scl 16384 = 512 := rfl
theorem scl_top : scl 32767 = 1023 * 2 ^ 31 := rfl
theorem scl_pos {c : Nat} (h1 : 16384 ≤ c) (h2 : c < 32768) : 512 ≤ scl c := scl_mono (a := 16384) (Nat.le_refl _) h1 h2
theorem scl_le (c : Nat) : scl c ≤ 2196875771904 := by
  unfold scl
  split
  · omega
  · have h1 : 2 ^ (c / 512 % 32) ≤ 2 ^ 31 := Nat.pow_le_pow_right (by omega) (by omega)
    have h2 : (512 + c % 512) * 2 ^ (c / 512 % 32) ≤ 1023 * 2 ^ 31 := Nat.mul_le_mul (by omega) h1
    omega

def codI (n : Int) : Nat := if n < 1 then 0 else cod n.toNat
theorem codE_of {n e : Nat} (he : e ≤ 31) (h : 2 ^ e ≤ n) (hx : e = 31 ∨ n / 2 ^ e < 2) : e = codE n := by
  have h1 : 1 ≤ 2 ^ e := Nat.one_le_two_pow
  have h2 := (Nat.le_log2 (by omega : n ≠ 0)).2 h
  unfold codE
  rcases hx with hx | hx
  · omega
  · have h3 : n < 2 ^ (e + 1) := by
      rw [Nat.div_lt_iff_lt_mul h1] at hx
      rw [Nat.pow_succ]; omega
    have h4 : Nat.log2 n < e + 1 := (Nat.log2_lt (by omega)).2 h3
    omega

theorem codE_spec {n : Nat} (hn : 1 ≤ n) : codE n ≤ 31 ∧ 2 ^ codE n ≤ n ∧ (codE n = 31 ∨ n < 2 ^ (codE n + 1)) := by
  unfold codE
  have h1 := Nat.log2_self_le (n := n) (by omega)
  have h2 := Nat.lt_log2_self (n := n)
  by_cases h : Nat.log2 n ≤ 31
  · rw [Nat.min_eq_left h]; exact ⟨h, h1, .inr h2⟩
  · rw [Nat.min_eq_right (by omega)]
    exact ⟨Nat.le_refl _, Nat.le_trans (Nat.pow_le_pow_right (by omega) (by omega)) h1, .inl rfl⟩

/-- what the code of a rate is: the greatest one that isn't above it. -/
theorem cod_spec {n : Nat} (hn : 1 ≤ n) : 16384 ≤ cod n ∧ cod n < 32768 ∧ scl (cod n) ≤ 512 * n ∧ (cod n < 32767 → 512 * n < scl (cod n + 1)) := by
  obtain ⟨h1, h2, h3⟩ := codE_spec hn
  obtain ⟨e, he⟩ : ∃ e, e = codE n := ⟨_, rfl⟩
  obtain ⟨p, hp⟩ : ∃ p, p = 2 ^ e := ⟨_, rfl⟩
  have hp0 : 0 < p := hp ▸ Nat.two_pow_pos e
  rw [← he] at h1 h2 h3
  rw [Nat.pow_succ, ← hp] at h3
  rw [← hp] at h2
  obtain ⟨M, hM⟩ : ∃ M, M = min n 8589934592 * 512 / p := ⟨_, rfl⟩
  have hM1 : M * p ≤ min n 8589934592 * 512 := hM ▸ Nat.div_mul_le_self _ _
  have hM2 : min n 8589934592 * 512 < (M + 1) * p := by
    have := Nat.lt_mul_div_succ (min n 8589934592 * 512) hp0
    rw [← hM, Nat.mul_comm p] at this; exact this
  have hp31 : p ≤ 2147483648 := hp ▸ Nat.pow_le_pow_right (n := 2) (by omega) h1
  have hM3 : 512 ≤ M := by
    rw [hM, Nat.le_div_iff_mul_le hp0]
    omega
  have hc : cod n = 16384 + e * 512 + (min M 1023 - 512) := by
    unfold cod; rw [← he, ← hp, ← hM]; omega
  have hs : scl (cod n) = min M 1023 * p := by
    rw [hc, scl_at e (min M 1023 - 512) (by omega) (by omega), ← hp, show 512 + (min M 1023 - 512) = min M 1023 by omega]
  refine ⟨by omega, by omega, ?_, fun hlt => ?_⟩
  · rw [hs]
    have : min M 1023 * p ≤ M * p := Nat.mul_le_mul_right _ (by omega)
    omega
  · have hnx := scl_next (cod n) (by omega) hlt
    rw [show (cod n - 16384) / 512 = e by omega, ← hp, hs] at hnx
    rw [hnx]
    by_cases hm : M ≤ 1022
    · rw [Nat.min_eq_left (by omega)]
      rw [Nat.add_mul] at hM2
      by_cases hn2 : n ≤ 8589934592
      · omega
      · exfalso
        have h31 : e = 31 := by
          rcases h3 with h3 | h3
          · exact h3
          · omega
        subst h31
        have h7 : p = 2147483648 := hp
        have : M * p ≤ 1022 * p := Nat.mul_le_mul_right _ hm
        omega
    · rcases h3 with h3 | h3
      · exfalso; omega
      · rw [Nat.min_eq_right (by omega)]; omega

theorem cod_top {n : Nat} (hn : 4294967296 ≤ n) : cod n = 32767 := by
  have ⟨h1, h2, h3, h4⟩ := cod_spec (n := n) (by omega)
  by_cases h : cod n < 32767
  · have := h4 h
    have := scl_le (cod n + 1)
    omega
  · omega

/-- it is the only one. -/
theorem cod_uniq {n c : Nat} (hn : 1 ≤ n) (h1 : 16384 ≤ c) (h2 : c < 32768) (h3 : scl c ≤ 512 * n) (h4 : c < 32767 → 512 * n < scl (c + 1)) : c = cod n := by
  have ⟨g1, g2, g3, g4⟩ := cod_spec hn
  rcases Nat.lt_trichotomy c (cod n) with h | h | h
  · have := h4 (by omega)
    have := scl_mono (a := c + 1) (b := cod n) (by omega) h g2
    omega
  · exact h
  · have := g4 (by omega)
    have := scl_mono (a := cod n + 1) (b := c) (by omega) h h2
    omega

theorem cod_mono {n m : Nat} (hn : 1 ≤ n) (h : n ≤ m) : cod n ≤ cod m := by
  have ⟨g1, g2, g3, g4⟩ := cod_spec hn
  have ⟨k1, k2, k3, k4⟩ := cod_spec (n := m) (by omega)
  rcases Nat.lt_or_ge (cod m) (cod n) with hl | hl
  · have := k4 (by omega)
    have := scl_mono (a := cod m + 1) (b := cod n) (by omega) hl g2
    omega
  · exact hl

theorem codI_of {n : Int} {m lo hi : Nat} (hn : ¬ n < 1) (hm : m = min n.toNat 1099511627776) (a1 : 16384 ≤ lo) (a2 : lo ≤ hi) (a3 : hi ≤ 32767) (a4 : scl lo ≤ 512 * m)
    (a5 : hi < 32767 → 512 * m < scl (hi + 1)) (hx : ¬ lo < hi) : lo = codI n := by
  have h : lo = hi := by omega
  subst h
  have h1 : lo = cod m := cod_uniq (by omega) a1 (by omega) a4 a5
  unfold codI
  rw [if_neg hn, h1]
  by_cases hb : n.toNat ≤ 1099511627776
  · rw [hm, Nat.min_eq_left hb]
  · rw [cod_top (n := m) (by omega), cod_top (n := n.toNat) (by omega)]
theorem codI_mono {n m : Int} (h : n ≤ m) : codI n ≤ codI m := by
  unfold codI
  split
  · omega
  · rw [if_neg (by omega)]; exact cod_mono (by omega) (by omega)
theorem codI_right (n : Int) : rgt (codI n) = true ∧ codI n ≤ 32767 := by
  unfold codI
  split
  · exact ⟨rfl, by omega⟩
  · have ⟨h1, h2, _⟩ := cod_spec (n := n.toNat) (by omega)
    exact ⟨(rgt_iff _).2 (.inr ⟨h1, h2⟩), by omega⟩
theorem stp_anti {a b : Nat} (h1 : 16384 ≤ a) (h2 : a < b) (h3 : b < 32768) : stp b ≤ stp a := by
  have ha := scl_pos h1 (by omega)
  have hab := scl_lt h1 h2 h3
  unfold stp
  rw [if_neg (by omega), if_neg (by omega)]
  rw [Nat.le_div_iff_mul_le (by omega)]
  have h5 : (536870912 + scl b - 1) / scl b * scl b ≤ 536870912 + scl b - 1 := Nat.div_mul_le_self _ _
  obtain ⟨q, hq⟩ : ∃ q, q = (536870912 + scl b - 1) / scl b := ⟨_, rfl⟩
  rw [← hq] at h5 ⊢
  by_cases hq0 : q = 0
  · subst hq0; omega
  · have h6 : q = (q - 1) + 1 := by omega
    rw [h6, Nat.add_mul] at h5 ⊢
    have h7 : (q - 1) * scl a ≤ (q - 1) * scl b := Nat.mul_le_mul_left _ (by omega)
    omega

theorem stp_spec {c : Nat} (h : scl c ≠ 0) : 1 ≤ stp c ∧ 536870912 ≤ stp c * scl c ∧ (stp c - 1) * scl c < 536870912 := by
  unfold stp
  rw [if_neg h]
  have h5 : (536870912 + scl c - 1) / scl c * scl c ≤ 536870912 + scl c - 1 := Nat.div_mul_le_self _ _
  have h6 := Nat.lt_mul_div_succ (536870912 + scl c - 1) (by omega : 0 < scl c)
  rw [Nat.mul_comm, Nat.add_mul] at h6
  have h7 : 1 ≤ (536870912 + scl c - 1) / scl c := by
    rw [Nat.le_div_iff_mul_le (by omega)]; omega
  refine ⟨h7, by omega, ?_⟩
  rw [Nat.sub_mul]
  omega

theorem stp_le {c : Nat} (h1 : 16384 ≤ c) (h2 : c < 32768) : 1 ≤ stp c ∧ stp c ≤ 1048576 := by
  have h := scl_pos h1 h2
  have ⟨a, _, b⟩ := stp_spec (c := c) (by omega)
  refine ⟨a, ?_⟩
  rcases Nat.lt_or_ge 1048576 (stp c) with h3 | h3
  · have : 1048576 * 512 ≤ (stp c - 1) * scl c := Nat.mul_le_mul (by omega) h
    omega
  · exact h3

/-- by how much a code's rate is below the next one. -/
theorem scl_gap {c : Nat} (h1 : 16384 ≤ c) (h2 : c < 32767) : scl (c + 1) = scl c + 2 ^ ((c - 16384) / 512) ∧ 512 * 2 ^ ((c - 16384) / 512) ≤ scl c := by
  refine ⟨scl_next c h1 h2, ?_⟩
  have := scl_at ((c - 16384) / 512) ((c - 16384) % 512) (by omega) (by omega)
  rw [show 16384 + (c - 16384) / 512 * 512 + (c - 16384) % 512 = c by omega] at this
  rw [this]
  exact Nat.mul_le_mul_right _ (by omega)

theorem near_key {n s e p m : Nat} (hp : p = 2 ^ e) (hs : s = (512 + m) * p) (h1 : s ≤ 512 * n) (h2 : 512 * n < s + p) :
    (e ≤ 9 → s = 512 * n) ∧ (9 < e → s % 512 = 0 ∧ p % 512 = 0) := by
  refine ⟨fun he => ?_, fun he => ?_⟩
  · have hd : p ∣ 512 := ⟨2 ^ (9 - e), by rw [hp, ← Nat.pow_add, show e + (9 - e) = 9 by omega]⟩
    have h3 : p ∣ 512 * n := Nat.dvd_trans hd (Nat.dvd_mul_right _ _)
    have h4 : p ∣ s := hs ▸ Nat.dvd_mul_left _ _
    have h5 : p ∣ 512 * n - s := Nat.dvd_sub h3 h4
    have := Nat.eq_zero_of_dvd_of_lt h5 (by omega)
    omega
  · have hq : p = 512 * 2 ^ (e - 9) := by rw [hp, show (512 : Nat) = 2 ^ 9 from rfl, ← Nat.pow_add]; congr 1; omega
    have h4 : p % 512 = 0 := by rw [hq]; exact Nat.mul_mod_right _ _
    refine ⟨?_, h4⟩
    rw [hs, Nat.mul_mod, h4, Nat.mul_zero, Nat.zero_mod]

/-- RateNear's last line. -/
theorem cod_near {n : Nat} (hn : 1 ≤ n) : scl (cod n) / 512 ≤ n ∧ (n ≤ 512 → scl (cod n) / 512 = n) ∧ (n ≤ 2147483648 → n < scl (cod n) / 512 + n / 512 + 1) := by
  have ⟨g1, g2, g3, g4⟩ := cod_spec hn
  refine ⟨by omega, ?_⟩
  by_cases hbig : n ≤ 2147483648
  · have key : 512 * n < scl (cod n) + 2 ^ ((cod n - 16384) / 512) := by
      by_cases hc : cod n < 32767
      · have := g4 hc
        rwa [scl_next _ g1 hc] at this
      · rw [show cod n = 32767 by omega, scl_top]; omega
    have hs := scl_at ((cod n - 16384) / 512) ((cod n - 16384) % 512) (by omega) (by omega)
    rw [show 16384 + (cod n - 16384) / 512 * 512 + (cod n - 16384) % 512 = cod n by omega] at hs
    obtain ⟨k1, k2⟩ := near_key rfl hs g3 key
    have hs2 : 512 * 2 ^ ((cod n - 16384) / 512) ≤ scl (cod n) := by rw [hs]; exact Nat.mul_le_mul_right _ (by omega)
    by_cases he : (cod n - 16384) / 512 ≤ 9
    · have := k1 he
      omega
    · have := k2 (by omega)
      have : 2 ^ 10 ≤ 2 ^ ((cod n - 16384) / 512) := Nat.pow_le_pow_right (by omega) (by omega)
      omega
  · omega

theorem cod_back {c : Nat} (h1 : 16384 ≤ c) (h2 : c < 32768) : cod (scl c / 512) ≤ c ∧ (scl c % 512 = 0 → cod (scl c / 512) = c) ∧ scl (cod (scl c / 512)) / 512 = scl c / 512 := by
  have hp := scl_pos h1 h2
  have ⟨g1, g2, g3, g4⟩ := cod_spec (n := scl c / 512) (by omega)
  have hle : cod (scl c / 512) ≤ c := by
    rcases Nat.lt_or_ge c (cod (scl c / 512)) with h | h
    · have := scl_lt h1 h g2; omega
    · exact h
  have hwhole : scl c % 512 = 0 → cod (scl c / 512) = c := fun hw => by
    refine (cod_uniq (by omega) h1 h2 (by omega) fun h => ?_).symm
    have := scl_lt h1 (by omega : c < c + 1) (by omega); omega
  refine ⟨hle, hwhole, ?_⟩
  by_cases hv : scl c / 512 ≤ 512
  · exact (cod_near (n := scl c / 512) (by omega)).2.1 hv
  · rw [hwhole ?_]
    have hs := scl_at ((c - 16384) / 512) ((c - 16384) % 512) (by omega) (by omega)
    rw [show 16384 + (c - 16384) / 512 * 512 + (c - 16384) % 512 = c by omega] at hs
    by_cases he : (c - 16384) / 512 ≤ 8
    · exfalso
      have : 2 ^ ((c - 16384) / 512) ≤ 2 ^ 8 := Nat.pow_le_pow_right (by omega) he
      have : (512 + (c - 16384) % 512) * 2 ^ ((c - 16384) / 512) ≤ 1023 * 2 ^ 8 := Nat.mul_le_mul (by omega) this
      omega
    · have hq : 2 ^ ((c - 16384) / 512) = 512 * 2 ^ ((c - 16384) / 512 - 9) := by rw [show (512 : Nat) = 2 ^ 9 from rfl, ← Nat.pow_add]; congr 1; omega
      rw [hs, hq, Nat.mul_comm, Nat.mul_assoc]
      exact Nat.mul_mod_right _ _
/- The same over the integers, for the walks: no cast of a natural number stands in a slot. -/
def sclZ (x : Int) : Int := scl x.toNat
def stpZ (x : Int) : Int := stp x.toNat
def valZ (x : Int) : Int := (scl x.toNat / 512 : Nat)
def codZ (n : Int) : Int := codI n
def rgtZ (x : Int) : Bool := rgt x.toNat
theorem sclZ_b (x : Int) : 0 ≤ sclZ x ∧ sclZ x ≤ 2196875771904 := by have := scl_le x.toNat; unfold sclZ; omega
theorem valZ_eq (x : Int) : valZ x = sclZ x / 512 := by unfold valZ sclZ; omega
theorem codZ_b (n : Int) : 0 ≤ codZ n ∧ codZ n ≤ 32767 ∧ rgtZ (codZ n) = true := by
  have := codI_right n
  unfold codZ rgtZ
  exact ⟨by omega, by omega, by rw [Int.toNat_natCast]; exact this.1⟩
theorem codZ_mono {n m : Int} (h : n ≤ m) : codZ n ≤ codZ m := by have := codI_mono h; unfold codZ; omega
theorem orderZ {a b : Int} (h0 : 0 ≤ a) (h0' : 0 ≤ b) (ha : rgtZ a = true) (hb : rgtZ b = true) : (a < b → sclZ a < sclZ b ∧ stpZ b ≤ stpZ a) ∧ (b ≤ a → sclZ b ≤ sclZ a) := by
  obtain ⟨a, rfl⟩ : ∃ c : Nat, a = c := ⟨a.toNat, by omega⟩
  obtain ⟨b, rfl⟩ : ∃ c : Nat, b = c := ⟨b.toNat, by omega⟩
  unfold rgtZ at ha hb
  unfold sclZ stpZ
  rw [Int.toNat_natCast, rgt_iff] at ha hb
  rw [Int.toNat_natCast, Int.toNat_natCast]
  have z1 : scl 0 = 0 := rfl
  have z2 : stp 0 = 1152921504606846976 := rfl
  constructor
  · intro hlt
    rcases ha with rfl | h <;> rcases hb with rfl | h'
    · omega
    · have := scl_pos h'.1 h'.2
      have := (stp_le h'.1 h'.2).2
      rw [z1, z2]; omega
    · omega
    · have := scl_lt h.1 (by omega) h'.2
      have := stp_anti h.1 (by omega) h'.2
      omega
  · intro hlt
    rcases ha with rfl | h <;> rcases hb with rfl | h'
    · omega
    · omega
    · rw [z1]; omega
    · have := scl_mono h'.1 (by omega) h.2
      omega
theorem backZ {c : Int} (h0 : 0 ≤ c) (hr : rgtZ c = true) : codZ (sclZ c / 512) ≤ c ∧ (sclZ c % 512 = 0 → codZ (sclZ c / 512) = c) ∧ sclZ (codZ (sclZ c / 512)) / 512 = sclZ c / 512 := by
  obtain ⟨c, rfl⟩ : ∃ n : Nat, c = n := ⟨c.toNat, by omega⟩
  unfold rgtZ at hr
  rw [Int.toNat_natCast, rgt_iff] at hr
  unfold codZ sclZ
  rw [Int.toNat_natCast]
  have e : (scl c : Int) / 512 = ((scl c / 512 : Nat) : Int) := by omega
  rw [e]
  rcases hr with rfl | h
  · decide
  · have hp := scl_pos h.1 h.2
    have e2 : codI ((scl c / 512 : Nat) : Int) = cod (scl c / 512) := by unfold codI; rw [if_neg (by omega)]; rfl
    rw [e2, Int.toNat_natCast]
    have := cod_back h.1 h.2
    omega
theorem nearZ {n : Int} (h0 : 1 ≤ n) (h1 : n < 4294967296) : sclZ (codZ n) / 512 ≤ n ∧ (codZ n < 32767 → 512 * n < sclZ (codZ n + 1)) ∧ (n ≤ 512 → sclZ (codZ n) / 512 = n) ∧ (n ≤ 2147483648 → n < sclZ (codZ n) / 512 + n / 512 + 1) := by
  obtain ⟨n, rfl⟩ : ∃ m : Nat, n = m := ⟨n.toNat, by omega⟩
  obtain ⟨c0, c1, c2, c3⟩ := cod_spec (n := n) (by omega)
  obtain ⟨c4, c5, c6⟩ := cod_near (n := n) (by omega)
  have e : codZ (n : Int) = (cod n : Int) := by unfold codZ codI; rw [if_neg (by omega)]; rfl
  rw [e]
  unfold sclZ
  rw [Int.toNat_natCast, show ((cod n : Int) + 1).toNat = cod n + 1 by omega]
  omega
theorem stepsZ {c : Int} (h : sclZ c ≠ 0) : 1 ≤ stpZ c ∧ stpZ c ≤ 3000000000000 ∧ 536870912 ≤ stpZ c * sclZ c ∧ stpZ c * sclZ c < 3000000000000 ∧ 0 ≤ (stpZ c - 1) * sclZ c ∧ (stpZ c - 1) * sclZ c < 536870912 := by
  have b := scl_le c.toNat
  unfold sclZ at *
  unfold stpZ
  have ⟨c1, c2, c3⟩ := stp_spec (c := c.toNat) (by omega)
  generalize scl c.toNat = s at *
  generalize stp c.toNat = t at *
  have d2 : (536870912 : Int) ≤ (t : Int) * (s : Int) := by have := Int.natCast_mul t s; omega
  have d3 : ((t : Int) - 1) * (s : Int) < (536870912 : Int) := by
    have := Int.natCast_mul (t - 1) s
    rw [show ((t - 1 : Nat) : Int) = (t : Int) - 1 by omega] at this
    omega
  have d4 : 0 ≤ ((t : Int) - 1) * (s : Int) := Int.mul_nonneg (by omega) (by omega)
  have d5 : (t : Int) * (s : Int) < 3000000000000 := by
    have : ((t : Int) - 1) * (s : Int) = (t : Int) * s - s := by rw [Int.sub_mul]; omega
    omega
  have d6 : (t : Int) ≤ 3000000000000 := by
    have : (t : Int) * 1 ≤ (t : Int) * s := Int.mul_le_mul_of_nonneg_left (by omega) (by omega)
    omega
  exact ⟨by omega, d6, d2, d5, d4, d3⟩
theorem stepsZ0 {c : Int} (h : sclZ c = 0) : stpZ c = 1152921504606846976 := by
  unfold sclZ at h
  unfold stpZ stp
  rw [if_pos (by omega)]; rfl
theorem twiceZ {c : Int} (h0 : 0 ≤ c) (hr : rgtZ c = true) (hz : ¬ c = 0) (h1 : c < 32256) :
    16384 ≤ c ∧ 2 ^ (c / 512 % 32).toNat = sclZ (c + 1) - sclZ c ∧ sclZ (c + 512) = 2 * sclZ c := by
  obtain ⟨c, rfl⟩ : ∃ n : Nat, c = n := ⟨c.toNat, by omega⟩
  unfold rgtZ at hr
  rw [Int.toNat_natCast, rgt_iff] at hr
  have hl : 16384 ≤ c := by omega
  have n1 := scl_next c hl (by omega)
  have n2 := scl_twice c hl (by omega)
  unfold sclZ
  rw [show ((c : Int) + 1).toNat = c + 1 by omega, show ((c : Int) + 512).toNat = c + 512 by omega, Int.toNat_natCast, show ((c : Int) / 512 % 32).toNat = (c - 16384) / 512 by omega, n1, n2]
  refine ⟨by omega, ?_, by omega⟩
  have e : ((2 ^ ((c - 16384) / 512) : Nat) : Int) = 2 ^ ((c - 16384) / 512) := by push_cast; rfl
  rw [Int.natCast_add, e]; omega
attribute [irreducible] scl codE cod codI rgt stp sclZ stpZ valZ codZ rgtZ
end Go.Proofs.YtaoagbnhomjkpaaGreat

/- The walks of the layer 'rate' and of its reference: what each function tells, of every argument. -/
namespace Go.Proofs.YtaoagbnhomjkpaaGreat
open Go.RowKit
theorem u16_and_bit (c : Nat) (h : c < 65536) : bits .and .u16 (c : Int) 16384 = ((c / 16384 % 2 * 16384 : Nat) : Int) := by
  have h1 := u16_and_nat c 16384 h (by decide)
  have h2 := nat_bit 14 c
  rw [show (2 : Nat) ^ 14 = 16384 from rfl] at h2
  rw [h2] at h1
  exact h1
theorem u16_and_31 (c : Int) (h0 : 0 ≤ c) (h : c < 65536) : bits .and .u16 c 31 = c % 32 := 
  bits_mask .u16 16 (by decide) (fun n h0 h1 => by rw [IntKind.wrap_u16]; omega) 5 (by decide) c h0 (by omega)
theorem scl_wrap (c : Nat) (h : ¬ c / 16384 % 2 = 0) : wrap64 ((512 + (c : Int) % 512) * 2 ^ (c / 512 % 32)) = (scl c : Int) := by
  have h1 := scl_le c
  have h2 : ((512 + (c : Int) % 512) * 2 ^ (c / 512 % 32)) = (scl c : Int) := by
    unfold scl; rw [if_neg h]; rw [Int.natCast_mul, Int.natCast_add, Int.natCast_emod, Int.natCast_pow]; rfl
  rw [h2]; unfold wrap64; omega
theorem scaled_any (c : Nat) (w : World) (h1 : c < 65536) :
    Calls Tryz.prog 21 #[.int .u16 (c : Int)] w fun e w' => e = .returned (.int .i64 (scl c : Nat)) ∧ w = w' := by
  have H1 := u16_and_bit c h1
  have H2 := u16_and_31 ((c : Int) / 512) (by omega) (by omega)
  go_enter Tryz.func21, Tryz.ntmps21
  by_cases h : c / 16384 % 2 = 0
  · go_wp2
    go_ret
    exact ⟨ret_int (by simp [scl, h]), rfl⟩
  · have h' : ((c : Int) / 16384 % 2 * 16384 == 0) = false := by simp; omega
    go_wp2
    go_ret
    exact ⟨ret_int (scl_wrap c h), rfl⟩
theorem right_any (c : Nat) (w : World) (h1 : c < 65536) :
    Calls Tryz.prog 18 #[.int .u16 (c : Int)] w fun e w' => e = .returned (.bool (rgt c)) ∧ w = w' := by
  go_enter Tryz.func18, Tryz.ntmps18
  go_wp2
  all_goals
    go_ret
    refine ⟨ret_bool ?_, rfl⟩
    rw [Bool.eq_iff_iff]; simp [rgt_iff]; omega
theorem step_any (c : Nat) (w : World) (h1 : c < 65536) :
    Calls Tryz.prog 19 #[.int .u16 (c : Int)] w fun e w' => e = .returned (.int .i64 (stp c : Nat)) ∧ w = w' := by
  have h := scl_le c
  go_enter Tryz.func19, Tryz.ntmps19
  by_cases hz : scl c = 0
  · go_wp2_with (go_at_call 21; refine (scaled_any _ _ h1).mono ?_; rintro e w' ⟨rfl, rfl⟩)
    go_ret
    exact ⟨ret_int (by simp [stp, hz]), rfl⟩
  · have hz' : 1 ≤ (scl c : Int) := by omega
    have hq : ((536870912 + (scl c : Int) - 1) / (scl c : Int)) = (stp c : Int) := by
      unfold stp; rw [if_neg hz, Int.natCast_ediv]; congr 1; omega
    have hq1 : (stp c : Int) ≤ 536870912 + (scl c : Int) - 1 := by rw [← hq]; exact Int.ediv_le_self _ (by omega)
    have hq0 : 0 ≤ (stp c : Int) := by omega
    go_wp2_with (go_at_call 21; refine (scaled_any _ _ h1).mono ?_; rintro e w' ⟨rfl, rfl⟩)
    go_ret
    exact ⟨ret_int hq, rfl⟩
theorem step_meas (k q s : Nat) (hs : 1 ≤ s) (hk : k * s < 536870912) : 536870912 - (k + max 1 q) * s < 536870912 - k * s := by
  rw [Nat.add_mul]
  have : 1 ≤ max 1 q * s := Nat.mul_pos (by omega) hs
  omega
theorem step_toNat (k q : Nat) {x : Int} (h : x = (k : Int) + (max 1 q : Nat)) : x.toNat = k + max 1 q := by omega
theorem stp_of (c k s : Nat) (hS : s = scl c) (hs : 1 ≤ s) (h1 : k = 0 ∨ k * s < 536870912 + s) (h2 : 536870912 ≤ k * s) : k = stp c := by
  unfold stp
  rw [← hS, if_neg (by omega)]
  refine (Nat.div_eq_of_lt_le ?_ ?_).symm
  · rcases h1 with rfl | h1 <;> omega
  · rw [Nat.add_mul]; omega
theorem scaled_int (x : Int) (w : World) (h0 : 0 ≤ x) (h1 : x < 65536) :
    Calls Tryz.prog 21 #[.int .u16 x] w fun e w' => e = .returned (.int .i64 (sclZ x)) ∧ w = w' := by
  unfold sclZ
  obtain ⟨c, rfl⟩ : ∃ c : Nat, x = c := ⟨x.toNat, by omega⟩
  exact scaled_any c w (by omega)
theorem right_int (x : Int) (w : World) (h0 : 0 ≤ x) (h1 : x < 65536) :
    Calls Tryz.prog 18 #[.int .u16 x] w fun e w' => e = .returned (.bool (rgtZ x)) ∧ w = w' := by
  unfold rgtZ
  obtain ⟨c, rfl⟩ : ∃ c : Nat, x = c := ⟨x.toNat, by omega⟩
  exact right_any c w (by omega)
theorem step_int (x : Int) (w : World) (h0 : 0 ≤ x) (h1 : x < 65536) :
    Calls Tryz.prog 19 #[.int .u16 x] w fun e w' => e = .returned (.int .i64 (stpZ x)) ∧ w = w' := by
  unfold stpZ
  obtain ⟨c, rfl⟩ : ∃ c : Nat, x = c := ⟨x.toNat, by omega⟩
  exact step_any c w (by omega)
end Go.Proofs.YtaoagbnhomjkpaaGreat

/- The law TopRates. -/
namespace Go.Proofs.YtaoagbnhomjkpaaGreat
set_option linter.unusedVariables false
set_option linter.unusedSimpArgs false
open Go.RowKit
set_option maxRecDepth 100000
set_option maxHeartbeats 4000000
theorem rates_plain {c : Int} (h0 : 0 ≤ c) (h1 : c < 65536) (hr : rgtZ c = true) (hz : c ≠ 0) : 1 ≤ stpZ c ∧ stpZ c ≤ 1048576 ∧ 1 ≤ perZ (stpZ c) ∧ perZ (stpZ c) ≤ (sclZ c + 511) / 512 := by
  have h2 : 16384 ≤ c.toNat ∧ c.toNat < 32768 := by
    unfold rgtZ at hr
    have := (rgt_iff c.toNat).1 hr
    omega
  have h3 := stp_le h2.1 h2.2
  have h4 := scl_pos h2.1 h2.2
  have h5 : sclZ c ≠ 0 := by unfold sclZ; omega
  have h6 := stepsZ h5
  have h7 : 1 ≤ stpZ c ∧ stpZ c ≤ 1048576 := by unfold stpZ; omega
  have h8 := perZ_spec h7.1
  have h9 := sclZ_b c
  refine ⟨h7.1, h7.2, h8.1, ?_⟩
  obtain ⟨p, hp⟩ : ∃ p, perZ (stpZ c) = p := ⟨_, rfl⟩
  obtain ⟨s, hs⟩ : ∃ s, stpZ c = s := ⟨_, rfl⟩
  obtain ⟨r, hr⟩ : ∃ r, sclZ c = r := ⟨_, rfl⟩
  rw [hs] at h6 h7 h8 hp
  rw [hp] at h8
  rw [hr] at h6 h9
  rw [hs, hp, hr]
  have k1 : 512 * (p - 1) < r := by
    rcases Int.lt_or_le (512 * (p - 1)) r with h | h
    · exact h
    · exfalso
      have k2 : r * s ≤ 512 * (p - 1) * s := Int.mul_le_mul_of_nonneg_right h (by omega)
      have k3 : 512 * (p - 1) * s = 512 * ((p - 1) * s) := by rw [Int.mul_assoc]
      have k4 : r * s = s * r := Int.mul_comm _ _
      rw [k3, k4] at k2
      have k5 := h6.2.2.1
      have k6 := h8.2.2.2.1
      omega
  omega
theorem rates_need {s : Int} (h : 1 ≤ s) (h1 : s ≤ 1048576) : rightZ 1 s 0 0 0 0 = 0 ∧ needZ 1 s 0 0 0 0 = perZ s := by
  have hr : rightZ 1 s 0 0 0 0 = 0 := by rw [rightZ_zero]; unfold FineP; omega
  refine ⟨hr, ?_⟩
  unfold needZ
  rw [if_neg (by omega)]
  simp
namespace topRates
theorem topRates_any (c : Int) (w : World) (h0 : 0 ≤ c) (h1 : c < 65536) : Calls Tryz.prog 5 #[.int .u16 c] w fun e w' => e = .returned (.bool true) ∧ Below w.heap.size w w' := by
  obtain ⟨R, hR⟩ : ∃ R, rgtZ c = R := ⟨_, rfl⟩
  have HR := Lib.hid hR
  cases R
  · clear hR
    go_enter Tryz.func5, Tryz.ntmps5
    go_wp2_with (first
      | (go_at_call 6; (with_reducible refine (alive_any _).mono ?_); rintro e w1 ⟨rfl, b1⟩)
      | (go_at_call 18; (with_reducible refine (right_int c _ h0 h1).mono ?_); rw [HR.out]; rintro e w2 ⟨rfl, rfl⟩))
    go_ret
    exact ⟨rfl, b1⟩
  · by_cases hz : c = 0
    · subst hz
      clear hR
      go_enter Tryz.func5, Tryz.ntmps5
      go_wp2_with (first
        | (go_at_call 6; (with_reducible refine (alive_any _).mono ?_); rintro e w1 ⟨rfl, b1⟩)
        | (go_at_call 18; (with_reducible refine (right_int 0 _ h0 h1).mono ?_); rw [HR.out]; rintro e w2 ⟨rfl, rfl⟩))
      go_ret
      exact ⟨rfl, b1⟩
    · obtain ⟨s1, s2, p1, p2⟩ := rates_plain h0 h1 hR hz
      obtain ⟨r0, n0⟩ := rates_need s1 s2
      obtain ⟨s, hs⟩ : ∃ s, stpZ c = s := ⟨_, rfl⟩
      obtain ⟨r, hr⟩ : ∃ r, sclZ c = r := ⟨_, rfl⟩
      have hb := sclZ_b c
      obtain ⟨p, hp⟩ : ∃ p, perZ s = p := ⟨_, rfl⟩
      rw [hs] at s1 s2 p1 p2 r0 n0
      rw [hr] at p2 hb
      rw [hp] at p1 p2 n0
      have HS := Lib.hid hs
      have HC := Lib.hid hr
      have HP := Lib.hid hp
      have HN := Lib.hid n0
      have H0 := Lib.hid r0
      have z0 : (c == 0) = false := by simp [hz]
      have y1 : IntKind.i64.wrap (r + 511) = r + 511 := IntWalk.i64_in _ (by omega)
      have y2 : (r + 511).tdiv 512 = (r + 511) / 512 := Int.tdiv_eq_ediv_of_nonneg (by omega)
      obtain ⟨q, hq⟩ : ∃ q, (r + 511) / 512 = q := ⟨_, rfl⟩
      have y3 : IntKind.i64.wrap q = q := IntWalk.i64_in _ (by omega)
      rw [hq] at y2 p2
      clear hR hs hr hp n0 r0 hq
      go_enter Tryz.func5, Tryz.ntmps5
      go_wp2_with (first
        | (go_at_call 6; (with_reducible refine (alive_any _).mono ?_); rintro e w1 ⟨rfl, b1⟩)
        | (go_at_call 18; (with_reducible refine (right_int c _ h0 h1).mono ?_); rw [HR.out]; rintro e w2 ⟨rfl, rfl⟩)
        | (go_at_call 19; (with_reducible refine (step_int c _ h0 h1).mono ?_); rw [HS.out]; rintro e w2 ⟨rfl, rfl⟩)
        | (go_at_call 21; (with_reducible refine (scaled_int c _ h0 h1).mono ?_); rw [HC.out]; rintro e w2 ⟨rfl, rfl⟩)
        | (go_at_call 22; (with_reducible refine (per_any s _).mono ?_); rw [HP.out]; rintro e w2 ⟨rfl, rfl⟩)
        | (go_at_call 20; (with_reducible refine (need_any 1 s 0 0 0 0 _).mono ?_); rw [HN.out]; rintro e wn ⟨rfl, bn⟩; have k0 : wn.cell? ⟨w1.heap.size, 0, none⟩ = some (.int .i64 1) := cell_keep bn (by (repeat (first | (with_reducible assumption) | ((with_reducible refine cell_top ?_ rfl); first | (with_reducible rfl) | (simp; done)) | (with_reducible apply cell_drew) | (with_reducible apply cell_drewN) | (with_reducible apply cell_set) | ((with_reducible apply cell_off); focus (decide)) | ((with_reducible apply cell_beside); focus (first | omega | (simp; done) | (simp; omega))) | ((with_reducible apply cell_under); focus (first | (simp; done) | (simp; omega)))))); have k1 : wn.cell? ⟨w1.heap.size, 1, none⟩ = some (.int .i64 s) := cell_keep bn (by (repeat (first | (with_reducible assumption) | ((with_reducible refine cell_top ?_ rfl); first | (with_reducible rfl) | (simp; done)) | (with_reducible apply cell_drew) | (with_reducible apply cell_drewN) | (with_reducible apply cell_set) | ((with_reducible apply cell_off); focus (decide)) | ((with_reducible apply cell_beside); focus (first | omega | (simp; done) | (simp; omega))) | ((with_reducible apply cell_under); focus (first | (simp; done) | (simp; omega)))))); have k2 : wn.cell? ⟨w1.heap.size, 2, none⟩ = some (.int .i64 0) := cell_keep bn (by (repeat (first | (with_reducible assumption) | ((with_reducible refine cell_top ?_ rfl); first | (with_reducible rfl) | (simp; done)) | (with_reducible apply cell_drew) | (with_reducible apply cell_drewN) | (with_reducible apply cell_set) | ((with_reducible apply cell_off); focus (decide)) | ((with_reducible apply cell_beside); focus (first | omega | (simp; done) | (simp; omega))) | ((with_reducible apply cell_under); focus (first | (simp; done) | (simp; omega)))))); have k3 : wn.cell? ⟨w1.heap.size, 3, none⟩ = some (.int .i64 0) := cell_keep bn (by (repeat (first | (with_reducible assumption) | ((with_reducible refine cell_top ?_ rfl); first | (with_reducible rfl) | (simp; done)) | (with_reducible apply cell_drew) | (with_reducible apply cell_drewN) | (with_reducible apply cell_set) | ((with_reducible apply cell_off); focus (decide)) | ((with_reducible apply cell_beside); focus (first | omega | (simp; done) | (simp; omega))) | ((with_reducible apply cell_under); focus (first | (simp; done) | (simp; omega)))))); have k4 : wn.cell? ⟨w1.heap.size, 4, none⟩ = some (.int .i64 0) := cell_keep bn (by (repeat (first | (with_reducible assumption) | ((with_reducible refine cell_top ?_ rfl); first | (with_reducible rfl) | (simp; done)) | (with_reducible apply cell_drew) | (with_reducible apply cell_drewN) | (with_reducible apply cell_set) | ((with_reducible apply cell_off); focus (decide)) | ((with_reducible apply cell_beside); focus (first | omega | (simp; done) | (simp; omega))) | ((with_reducible apply cell_under); focus (first | (simp; done) | (simp; omega)))))); have k5 : wn.cell? ⟨w1.heap.size, 5, none⟩ = some (.int .i64 0) := cell_keep bn (by (repeat (first | (with_reducible assumption) | ((with_reducible refine cell_top ?_ rfl); first | (with_reducible rfl) | (simp; done)) | (with_reducible apply cell_drew) | (with_reducible apply cell_drewN) | (with_reducible apply cell_set) | ((with_reducible apply cell_off); focus (decide)) | ((with_reducible apply cell_beside); focus (first | omega | (simp; done) | (simp; omega))) | ((with_reducible apply cell_under); focus (first | (simp; done) | (simp; omega)))))))
        | (go_at_call 7; (with_reducible refine (cright_any 1 s 0 0 0 0 _).mono ?_); rw [H0.out]; rintro e wr ⟨rfl, br⟩))
      all_goals go_ret
      all_goals refine ⟨ret_bool (by simp), ?_⟩
      all_goals
        have z1 := b1.size
        have Ba : Below w.heap.size w (w1.alloc (.cells #[.int .i64 1, .int .i64 s, .int .i64 0, .int .i64 0, .int .i64 0, .int .i64 0] 23)) := b1.alloc z1 _
        have Bn := Ba.trans (bn.mono Ba.size)
        exact Bn.trans (br.mono Bn.size)
end topRates
end Go.Proofs.YtaoagbnhomjkpaaGreat
