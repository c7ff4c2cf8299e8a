/- The walk of cell.Parse. -/
import Derived.Test.YtdlghiekcgplaaaCellB
import Derived.Test.YtdlghiekcgplaaaHecW
namespace Go.Proofs.Ytdlghiekcgplaaa
set_option linter.unusedVariables false
set_option linter.unusedSimpArgs false
open Go.RowKit
set_option maxRecDepth 100000
set_option maxHeartbeats 4000000
theorem takes_len {c : Bool} {zs : List Int} (h : zs.length = 5) : (takes c zs).length = 4 := by
  unfold takes
  split
  · simp [h]
  · split
    · simp [flip_len, h]
    · rfl
theorem takes_four {c : Bool} {zs : List Int} (h : zs.length = 5) : ∃ x y z u, takes c zs = [x, y, z, u] := by
  have h4 := takes_len (c := c) h
  match takes c zs, h4 with
  | [x, y, z, u], _ => exact ⟨x, y, z, u, rfl⟩
theorem takes_B {c : Bool} {zs : List Int} (hb : allB zs) : allB (takes c zs) := by
  unfold takes
  split
  · exact fun z hz => hb z (List.mem_of_mem_take hz)
  · split
    · exact fun z hz => flip_B hb _ z (List.mem_of_mem_take hz)
    · intro z hz; simp at hz; subst hz; unfold isB; omega
theorem oneIf_bd (b : Bool) : 0 ≤ oneIf b ∧ oneIf b ≤ 1 := by cases b <;> decide
/-- no call, a build and a slice turned into an array's pointer among them. -/
def noCallB : Op → Bool
  | .build .. => true
  | .sliceToArrayPointer .. => true
  | o => noCall o
theorem noCallB_value {o : Oper} {ρ : Operand → Value} {P : Program} {w w' : World} {n : Next} (hp : noCallB o.op = true) (h : (execOp ρ o).run P w = .ok n w') : ∃ u, n = .value u := by
  by_cases hn : noCall o.op = true
  · exact noCall_value hn h
  · unfold execOp at h
    cases ho : o.op <;> simp only [ho, noCallB, noCall, Bool.false_eq_true, not_true_eq_false] at hp hn h
    all_goals exact bind_value h
theorem still_of_quietB {P : Program} {ops : Array Oper} {w : World} {Q : Act → Prop} : ∀ (l : List Oper) (a : Act), (l.all fun o => noCallB o.op) = true → wpQuiet P ops (fun w' => ∃ _ : Unit, w' = w) Q l a → wpStill P ops w Q l a
  | [], _, _, h => h
  | o :: l, a, hl, h => by
    simp only [List.all_cons, Bool.and_eq_true] at hl
    unfold wpQuiet at h
    unfold wpStill
    split
    · rename_i hw
      simp only [hw, if_true] at h
      obtain ⟨v, hv, hk⟩ := h
      have h1 := hv w ⟨(), rfl⟩
      unfold Oper.quietAt at h1
      unfold Oper.still
      generalize hr : (execOp a.eval o).run P w = r at *
      cases r with
      | halt x w' => exact h1.elim
      | ok n w' =>
        obtain ⟨u, rfl⟩ := noCallB_value hl.1 hr
        obtain ⟨rfl, rfl⟩ := h1
        exact ⟨rfl, still_of_quietB l _ hl.2 hk⟩
    · rename_i hw
      simp only [hw] at h
      exact still_of_quietB l _ hl.2 h
theorem region_tail_b {P : Program} {id : Nat} {Q : Exit → Act → World → Prop} {a : Act} {w : World} {l : List Oper} (n : Nat) (hm : P.follows .mixedOrders = true) (hB : Region.lexTailB .any l.toArray n = true) (hl : ((l.take n).all fun o => noCallB o.op) = true)
    (h : wpQuiet P l.toArray (fun w' => ∃ _ : Unit, w' = w.drew) (fun a' => wpList P l.toArray Q (l.drop n) a' w.drew) (l.take n) a) : (Code.region id l.toArray true).wp P Q a w :=
  wp_region_still_tail n hm hB (still_of_quietB _ _ hl h)
theorem chg_back {b B : Nat} {w0 w w' : World} (h : Chg b w w') (h0 : Below B w0 w) (hb : B ≤ b) (hB : B ≤ w.heap.size) : Below B w0 w' := h0.trans (h.below hb hB)
theorem und46 : ∃ d, Try.prog.underlying 46 = some d ∧ d.isRow = true := ⟨_, by simp [go_sem]; rfl, rfl⟩
theorem siz46 : (Try.prog.info? 46).map (·.size) = some 53 := by kernel_rfl
theorem load46 {w : World} {b : Nat} {cs : List Value} (h : w.rangeAt b 0 cs) (hl : cs.length = 53) : (loadVar 46 ⟨b, 0, none⟩).run Try.prog w = .ok (.agg cs.toArray) w := by
  obtain ⟨d, h1, h2⟩ := und46
  exact run_loadVar_mid w b 0 _ cs d h h1 h2 (by rw [siz46, hl])
theorem there_new {w : World} {C : Array Value} {E : TypeId} {b n : Nat} (hb : b = w.heap.size) (hC : C.size = n) : (w.alloc (.cells C E)).there b 0 n := fun j hj => by
  subst hb
  refine ⟨?_, frozen_top rfl⟩
  rw [cell_top (v := C[0 + j]'(by omega)) rfl (by rw [Array.getElem?_eq_getElem])]
  rfl
theorem there_chg {p b o n : Nat} {w w' : World} (h : Chg p w w') (hk : b ≠ p) (ht : w.there b o n) : w'.there b o n := fun j hj => by
  obtain ⟨h1, h2⟩ := ht j hj
  obtain ⟨u, hu⟩ := Option.isSome_iff_exists.1 h1
  have hb := h.block b (World.block_lt_of_cell? w _ hu) hk
  exact ⟨by rw [World.cell?_of_block (w := w) hb]; exact h1, by rw [World.frozen?_of_block (w := w) hb]; exact h2⟩
theorem there_below {b o n : Nat} {w w' : World} (ht : w.there b o n) (h : Below w.heap.size w w') : w'.there b o n := fun j hj => by
  obtain ⟨h1, h2⟩ := ht j hj
  obtain ⟨u, hu⟩ := Option.isSome_iff_exists.1 h1
  have hb := h.block b (World.block_lt_of_cell? w _ hu)
  exact ⟨by rw [World.cell?_of_block (w := w) hb]; exact h1, by rw [World.frozen?_of_block (w := w) hb]; exact h2⟩
theorem there_drew {b o n : Nat} {w : World} (ht : w.there b o n) : w.drew.there b o n := (World.there_drew _ _ _ _).2 ht
theorem there_setCell {b o n : Nat} {w : World} (ht : w.there b o n) (p : Addr) (v : Value) : (w.setCell p v).there b o n := fun j hj =>
  ⟨by
    by_cases hp : p = ⟨b, o + j, none⟩
    · subst hp; rw [World.cell?_setCell_same' _ _ _ (ht j hj).1]; rfl
    · rw [World.cell?_setCell_other (h := hp)]; exact (ht j hj).1, by rw [World.frozen?_setCell]; exact (ht j hj).2⟩
/-- a cell's value. -/
abbrev cellV (g p c t l : Int) (zs : List Int) : List Value := hdr5 g p c t l ++ u8s zs
abbrev noCell : List Value := cellV 0 0 0 0 0 (List.replicate 48 0)
theorem one_cellV (g p c t l : Int) (zs : List Int) : (cellV g p c t l zs).toArray.all (·.oneCell') = true := all_oneCell_toArray (fun v hv => by
  rcases List.mem_append.1 hv with h | h
  · simp only [hdr5, List.mem_cons, List.not_mem_nil, or_false] at h
    rcases h with h | h | h | h | h <;> (rw [h]; rfl)
  · obtain ⟨z, _, rfl⟩ := List.mem_map.1 h; rfl)
theorem results46 {fn : Func} {p u : Tmp} (h : fn.results = #[.cell p 46, .tmp u]) (tmps : Array Value) (w : World) {b : Nat} {cs : List Value} (hp : tmps.getD p undef = .pointer (some ⟨b, 0, none⟩)) (ht : w.there b 0 53) (hl : cs.length = 53) :
    (results fn tmps).run Try.prog (w.setCells b 0 cs) = .ok (.tuple #[.agg cs.toArray, tmps.getD u undef]) (w.setCells b 0 cs) :=
  results_ct h tmps _ hp (load46 (World.rangeAt_setCells_same _ _ _ _ (by rw [hl]; exact ht)) hl)
theorem cellParse_short (a : Option Addr) (len cap : Nat) (B : Value) (nni : Bool) (w : World) (h : len < 53) :
    Calls Try.prog 34 #[.slice a len cap, B, .bool nni] w fun e w' => e = .returned (.tuple #[.agg noCell.toArray, .int .i64 2]) ∧ Below w.heap.size w w' := by
  have h1 : (len : Int) < 53 := by omega
  go_enter Try.func34, Try.ntmps34
  go_wp2_with (refine wpList_store_mid (cells := noCell.toArray) ?sgd 46 (.tmp 6) (.tmp 16) ?sho w.heap.size 0 ?shx ?shy ?sht ?shi (one_cellV _ _ _ _ _ _) ?_; (case sho => rfl); (case sgd => rfl); (case shx => rfl); (case shy => rfl); (case sht => exact there_new rfl rfl); (case shi => (rw [siz46]; rfl)))
  refine bodyPost_ret (results46 rfl _ _ rfl (there_new rfl rfl) rfl) rfl ⟨rfl, ?_⟩
  exact Below.setCells _ _ (by (repeat' (first | (with_reducible exact Below.refl _ _) | (with_reducible assumption) | (with_reducible refine below_drewN ?_ _) | (with_reducible refine Below.drew ?_) | ((with_reducible refine Below.alloc ?_ ?_ _); (rotate_left; focus (first | omega | (simp; done) | (simp; omega)))) | ((with_reducible refine Below.setCell ?_ ?_ _); (rotate_left; focus (first | omega | (simp; done) | (simp; omega)))) | (with_reducible refine Below.grown ?_ (by assumption) (by first | omega | (simp; omega)) (by simp [Value.ownBlock]; try omega)) | (with_reducible refine below_then ?_ (Aft.below _)) | (with_reducible apply below_then; rotate_left; assumption)))) (Nat.le_refl _)
theorem cellParse_long (a : Option Addr) (len cap : Nat) (B : Value) (nni : Bool) (w : World) (h : 53 < len) :
    Calls Try.prog 34 #[.slice a len cap, B, .bool nni] w fun e w' => e = .returned (.tuple #[.agg noCell.toArray, .int .i64 3]) ∧ Below w.heap.size w w' := by
  have h1 : ¬ (len : Int) < 53 := by omega
  have h2 : (53 : Int) < len := by omega
  go_enter Try.func34, Try.ntmps34
  go_wp2_with (refine wpList_store_mid (cells := noCell.toArray) ?sgd 46 (.tmp 6) (.tmp 21) ?sho w.heap.size 0 ?shx ?shy ?sht ?shi (one_cellV _ _ _ _ _ _) ?_; (case sho => rfl); (case sgd => rfl); (case shx => rfl); (case shy => rfl); (case sht => exact there_new rfl rfl); (case shi => (rw [siz46]; rfl)))
  refine bodyPost_ret (results46 rfl _ _ rfl (there_new rfl rfl) rfl) rfl ⟨rfl, ?_⟩
  exact Below.setCells _ _ (by (repeat' (first | (with_reducible exact Below.refl _ _) | (with_reducible assumption) | (with_reducible refine below_drewN ?_ _) | (with_reducible refine Below.drew ?_) | ((with_reducible refine Below.alloc ?_ ?_ _); (rotate_left; focus (first | omega | (simp; done) | (simp; omega)))) | ((with_reducible refine Below.setCell ?_ ?_ _); (rotate_left; focus (first | omega | (simp; done) | (simp; omega)))) | (with_reducible refine Below.grown ?_ (by assumption) (by first | omega | (simp; omega)) (by simp [Value.ownBlock]; try omega)) | (with_reducible refine below_then ?_ (Aft.below _)) | (with_reducible apply below_then; rotate_left; assumption)))) (Nat.le_refl _)
theorem BytesAt.five {w : World} {a : Option Addr} {zs : List Int} {n : Nat} {x y z u v : Int} (h : BytesAt w a n zs) (hn : 5 ≤ n) (h5 : zs.take 5 = [x, y, z, u, v]) : ∃ b off, a = some ⟨b, off, none⟩ ∧ b < w.heap.size ∧ (∀ q ∈ [x, y, z, u, v], 0 ≤ q ∧ q < 256) ∧
    w.cell? ⟨b, off, none⟩ = some (.int .u8 x) ∧ w.cell? ⟨b, off + 1, none⟩ = some (.int .u8 y) ∧ w.cell? ⟨b, off + 2, none⟩ = some (.int .u8 z) ∧ w.cell? ⟨b, off + 3, none⟩ = some (.int .u8 u) ∧ w.cell? ⟨b, off + 4, none⟩ = some (.int .u8 v) := by
  obtain ⟨b, off, rfl, hb, hc⟩ := h.cells (by omega)
  have e : ∀ k, k < 5 → zs[k]?.getD 0 = [x, y, z, u, v][k]?.getD 0 := fun k hk => by rw [← h5, List.getElem?_take_of_lt hk]
  have b0 := h.byte 0; have b1 := h.byte 1; have b2 := h.byte 2; have b3 := h.byte 3; have b4 := h.byte 4
  have c0 := hc 0 (by omega); have c1 := hc 1 (by omega); have c2 := hc 2 (by omega); have c3 := hc 3 (by omega); have c4 := hc 4 (by omega)
  rw [e 0 (by omega)] at b0 c0; rw [e 1 (by omega)] at b1 c1; rw [e 2 (by omega)] at b2 c2; rw [e 3 (by omega)] at b3 c3; rw [e 4 (by omega)] at b4 c4
  refine ⟨b, off, rfl, hb, fun q hq => ?_, c0, c1, c2, c3, c4⟩
  simp only [List.mem_cons, List.not_mem_nil, or_false] at hq
  rcases hq with rfl | rfl | rfl | rfl | rfl
  · exact b0
  · exact b1
  · exact b2
  · exact b3
  · exact b4
theorem recAt_setCells {p b : Nat} {r d : Int} {c : Bool} : ∀ (vs : List Value) (o : Nat) {w : World}, RecAt w p r d c → p ≠ b → RecAt (w.setCells b o vs) p r d c
  | [], _, _, h, _ => h
  | v :: rest, o, w, h, hb => recAt_setCells rest (o + 1) (h.beside hb) hb
theorem cellParse_drop (p : Nat) (r d : Int) (c : Bool) (a : Option Addr) (cap : Nat) (zs : List Int) (nni : Bool) (w : World) (h : RecAt w p r d c) (r0 : 0 ≤ r) (r1 : r ≤ 1000000) (d0 : 0 ≤ d) (d1 : d ≤ 1000000) (hz : BytesAt w a 53 zs) (hc1 : 53 ≤ cap) (hc2 : cap ≤ 9223372036854775807) (hn : ∀ b off, a = some ⟨b, off, none⟩ → b ≠ p)
    (hd : drops c (zs.take 5) = true) :
    Calls Try.prog 34 #[.slice a 53 cap, .pointer (some ⟨p, 0, none⟩), .bool nni] w fun e w' => e = .returned (.tuple #[.agg noCell.toArray, .int .i64 4]) ∧ RecAt w' p (r + oneIf (fixes c (zs.take 5))) (d + oneIf (drops c (zs.take 5))) (synd (zs.take 5) != 0) ∧ Chg p w w' := by
  have hl := hz.length
  obtain ⟨x, y, z, u, v, h5⟩ : ∃ x y z u v, zs.take 5 = [x, y, z, u, v] := by
    have h5 : (zs.take 5).length = 5 := by simp; omega
    match zs.take 5, h5 with
    | [x, y, z, u, v], _ => exact ⟨x, y, z, u, v, rfl⟩
  obtain ⟨b, off, rfl, hb, hv, k0, k1, k2, k3, k4⟩ := hz.five (by omega) h5
  have hbp : b ≠ p := hn b off rfl
  have hpw := h.lt
  rw [h5] at hd ⊢
  obtain ⟨F, hF⟩ : ∃ F, fixes c [x, y, z, u, v] = F := ⟨_, rfl⟩
  obtain ⟨S, hS⟩ : ∃ S, (synd [x, y, z, u, v] != 0) = S := ⟨_, rfl⟩
  obtain ⟨t0, t1, t2, t3, hT⟩ := takes_four (c := c) (zs := [x, y, z, u, v]) rfl
  rw [hF, hS, hd]
  have HF := Lib.hid hF
  have HS := Lib.hid hS
  have HD := Lib.hid hd
  have HT := Lib.hid hT
  have ha5 := arrB5
  clear hF hS hd hT h5
  go_enter Try.func34, Try.ntmps34
  go_wp2_with (first | (go_at_call 48; (refine (take_any p r d c x y z u v _ (h.below ?q0) r0 r1 d0 d1 hv).mono ?_); (case q0 => (repeat' (first | (with_reducible exact Below.refl _ _) | (with_reducible assumption) | (with_reducible refine below_drewN ?_ _) | (with_reducible refine Below.drew ?_) | ((with_reducible refine Below.alloc ?_ ?_ _); (rotate_left; focus (first | omega | (simp; done) | (simp; omega)))) | ((with_reducible refine Below.setCell ?_ ?_ _); (rotate_left; focus (first | omega | (simp; done) | (simp; omega)))) | (with_reducible refine Below.grown ?_ (by assumption) (by first | omega | (simp; omega)) (by simp [Value.ownBlock]; try omega)) | (with_reducible refine below_then ?_ (Aft.below _)) | (with_reducible apply below_then; rotate_left; assumption)))); rw [HF.out, HD.out, HS.out, HT.out, show agg4 [t0, t1, t2, t3] = .agg #[.int .u8 t0, .int .u8 t1, .int .u8 t2, .int .u8 t3] from rfl]; rintro e wt ⟨rfl, hR, hC⟩; have hs_wt := hC.size; (try simp at hs_wt); have hth : wt.there w.heap.size 0 53 := there_chg hC (by omega) (there_new rfl rfl)) | (refine wpList_store_mid (cells := noCell.toArray) ?sgd 46 (.tmp 6) (.tmp 33) ?sho w.heap.size 0 ?shx ?shy ?sht ?shi (one_cellV _ _ _ _ _ _) ?_; (case sho => rfl); (case sgd => rfl); (case shx => rfl); (case shy => rfl); (case sht => (show World.there _ _ _ 53; (repeat (first | (with_reducible assumption) | (with_reducible refine there_drew ?_) | (with_reducible refine World.there_alloc ?_ _) | (with_reducible refine there_setCell ?_ _ _) | (with_reducible refine there_below ?_ (by assumption)) | exact there_new rfl rfl)))); (case shi => (rw [siz46]; rfl))))
  have hCp : Chg p w wt := (Chg.of (by (repeat' (first | (with_reducible exact Below.refl _ _) | (with_reducible assumption) | (with_reducible refine below_drewN ?_ _) | (with_reducible refine Below.drew ?_) | ((with_reducible refine Below.alloc ?_ ?_ _); (rotate_left; focus (first | omega | (simp; done) | (simp; omega)))) | ((with_reducible refine Below.setCell ?_ ?_ _); (rotate_left; focus (first | omega | (simp; done) | (simp; omega)))) | (with_reducible refine Below.grown ?_ (by assumption) (by first | omega | (simp; omega)) (by simp [Value.ownBlock]; try omega)) | (with_reducible refine below_then ?_ (Aft.below _)) | (with_reducible apply below_then; rotate_left; assumption))))).trans hC
  refine bodyPost_ret (results46 rfl _ _ rfl ?_ rfl) rfl ⟨rfl, ?_, ?_⟩
  · (repeat (first | (with_reducible assumption) | (with_reducible refine there_drew ?_) | (with_reducible refine World.there_alloc ?_ _) | (with_reducible refine there_setCell ?_ _ _) | (with_reducible refine there_below ?_ (by assumption)) | exact there_new rfl rfl))
  · refine recAt_setCells _ _ ?_ (by omega)
    (repeat (first | (with_reducible assumption) | (with_reducible apply RecAt.set0) | (with_reducible apply RecAt.set1) | (with_reducible apply RecAt.set2) | ((with_reducible refine RecAt.beside ?_ ?_); (rotate_left; focus (first | omega | (simp; omega)))) | (with_reducible refine RecAt.alloc ?_ _) | (with_reducible refine RecAt.drewN ?_ _) | (with_reducible refine RecAt.drew ?_) | (with_reducible refine RecAt.below ?_ (by assumption))))
  · refine Chg.setCells _ _ ?_ (Nat.le_refl _)
    (repeat (first | (with_reducible exact Chg.refl _ _) | (with_reducible assumption) | (with_reducible refine Chg.setCell ?_ _ _) | ((with_reducible refine Chg.setNew ?_ ?_ _ _); (rotate_left; focus (first | omega | (simp; omega)))) | (with_reducible refine Chg.alloc ?_ _) | (with_reducible refine Chg.drewN ?_ _) | (with_reducible refine Chg.drew ?_) | (with_reducible refine Chg.then ?_ (by assumption))))
theorem take_nil0 (x y z u v : Int) (w : World) :
    Calls Try.prog 48 #[.pointer none, .agg #[.int .u8 x, .int .u8 y, .int .u8 z, .int .u8 u, .int .u8 v]] w fun e w' => e = .returned (.tuple #[.agg #[.int .u8 0, .int .u8 0, .int .u8 0, .int .u8 0], .bool false]) ∧ Below w.heap.size w w' := by
  go_enter Try.func48, Try.ntmps48
  go_wp2
  refine bodyPost_ret (results_ct rfl _ _ rfl (load_four ?_ ?_ ?_ ?_)) rfl ⟨rfl, ?_⟩
  · (repeat (first | (with_reducible assumption) | ((with_reducible refine cell_top ?_ rfl); first | (with_reducible rfl) | (simp; done)) | (with_reducible apply cell_drew) | (with_reducible apply cell_drewN) | (with_reducible apply cell_set) | ((with_reducible apply cell_off); focus (decide)) | ((with_reducible apply cell_beside); focus (first | omega | (simp; done) | (simp; omega))) | ((with_reducible apply cell_under); focus (first | (simp; done) | (simp; omega)))))
  · (repeat (first | (with_reducible assumption) | ((with_reducible refine cell_top ?_ rfl); first | (with_reducible rfl) | (simp; done)) | (with_reducible apply cell_drew) | (with_reducible apply cell_drewN) | (with_reducible apply cell_set) | ((with_reducible apply cell_off); focus (decide)) | ((with_reducible apply cell_beside); focus (first | omega | (simp; done) | (simp; omega))) | ((with_reducible apply cell_under); focus (first | (simp; done) | (simp; omega)))))
  · (repeat (first | (with_reducible assumption) | ((with_reducible refine cell_top ?_ rfl); first | (with_reducible rfl) | (simp; done)) | (with_reducible apply cell_drew) | (with_reducible apply cell_drewN) | (with_reducible apply cell_set) | ((with_reducible apply cell_off); focus (decide)) | ((with_reducible apply cell_beside); focus (first | omega | (simp; done) | (simp; omega))) | ((with_reducible apply cell_under); focus (first | (simp; done) | (simp; omega)))))
  · (repeat (first | (with_reducible assumption) | ((with_reducible refine cell_top ?_ rfl); first | (with_reducible rfl) | (simp; done)) | (with_reducible apply cell_drew) | (with_reducible apply cell_drewN) | (with_reducible apply cell_set) | ((with_reducible apply cell_off); focus (decide)) | ((with_reducible apply cell_beside); focus (first | omega | (simp; done) | (simp; omega))) | ((with_reducible apply cell_under); focus (first | (simp; done) | (simp; omega)))))
  · (repeat' (first | (with_reducible exact Below.refl _ _) | (with_reducible assumption) | (with_reducible refine below_drewN ?_ _) | (with_reducible refine Below.drew ?_) | ((with_reducible refine Below.alloc ?_ ?_ _); (rotate_left; focus (first | omega | (simp; done) | (simp; omega)))) | ((with_reducible refine Below.setCell ?_ ?_ _); (rotate_left; focus (first | omega | (simp; done) | (simp; omega)))) | (with_reducible refine Below.grown ?_ (by assumption) (by first | omega | (simp; omega)) (by simp [Value.ownBlock]; try omega)) | (with_reducible refine below_then ?_ (Aft.below _)) | (with_reducible apply below_then; rotate_left; assumption)))
theorem cellParse_nil (a : Option Addr) (cap : Nat) (zs : List Int) (nni : Bool) (w : World) (hz : BytesAt w a 53 zs) (hc1 : 53 ≤ cap) (hc2 : cap ≤ 9223372036854775807) :
    Calls Try.prog 34 #[.slice a 53 cap, .pointer none, .bool nni] w fun e w' => e = .returned (.tuple #[.agg noCell.toArray, .int .i64 4]) ∧ Below w.heap.size w w' := by
  have hl := hz.length
  obtain ⟨x, y, z, u, v, h5⟩ : ∃ x y z u v, zs.take 5 = [x, y, z, u, v] := by
    have h5 : (zs.take 5).length = 5 := by simp; omega
    match zs.take 5, h5 with
    | [x, y, z, u, v], _ => exact ⟨x, y, z, u, v, rfl⟩
  obtain ⟨b, off, rfl, hb, hv, k0, k1, k2, k3, k4⟩ := hz.five (by omega) h5
  have ha5 := arrB5
  clear h5
  go_enter Try.func34, Try.ntmps34
  go_wp2_with (first | (go_at_call 48; (refine (take_nil0 x y z u v _).mono ?_); rintro e wt ⟨rfl, hb_wt⟩; have hs_wt := hb_wt.size; (try simp at hs_wt); have hth : wt.there w.heap.size 0 53 := there_below (there_new rfl rfl) hb_wt) | (refine wpList_store_mid (cells := noCell.toArray) ?sgd 46 (.tmp 6) (.tmp 33) ?sho w.heap.size 0 ?shx ?shy ?sht ?shi (one_cellV _ _ _ _ _ _) ?_; (case sho => rfl); (case sgd => rfl); (case shx => rfl); (case shy => rfl); (case sht => (show World.there _ _ _ 53; (repeat (first | (with_reducible assumption) | (with_reducible refine there_drew ?_) | (with_reducible refine World.there_alloc ?_ _) | (with_reducible refine there_setCell ?_ _ _) | (with_reducible refine there_below ?_ (by assumption)) | exact there_new rfl rfl)))); (case shi => (rw [siz46]; rfl))))
  refine bodyPost_ret (results46 rfl _ _ rfl ?_ rfl) rfl ⟨rfl, ?_⟩
  · (repeat (first | (with_reducible assumption) | (with_reducible refine there_drew ?_) | (with_reducible refine World.there_alloc ?_ _) | (with_reducible refine there_setCell ?_ _ _) | (with_reducible refine there_below ?_ (by assumption)) | exact there_new rfl rfl))
  · exact Below.setCells _ _ (by (repeat' (first | (with_reducible exact Below.refl _ _) | (with_reducible assumption) | (with_reducible refine below_drewN ?_ _) | (with_reducible refine Below.drew ?_) | ((with_reducible refine Below.alloc ?_ ?_ _); (rotate_left; focus (first | omega | (simp; done) | (simp; omega)))) | ((with_reducible refine Below.setCell ?_ ?_ _); (rotate_left; focus (first | omega | (simp; done) | (simp; omega)))) | (with_reducible refine Below.grown ?_ (by assumption) (by first | omega | (simp; omega)) (by simp [Value.ownBlock]; try omega)) | (with_reducible refine below_then ?_ (Aft.below _)) | (with_reducible apply below_then; rotate_left; assumption)))) (Nat.le_refl _)
theorem BytesAt.chgU {w w' : World} {a : Option Addr} {len p : Nat} {zs : List Int} (h : BytesAt w a len zs) (hc : Chg p w w') (hn : ∀ b off, a = some ⟨b, off, none⟩ → b ≠ p) : BytesAt w' a len zs :=
  ⟨h.length, h.most, h.byte, fun hp => by
    obtain ⟨b, off, h1, h2, h3⟩ := h.cells hp
    exact ⟨b, off, h1, Nat.lt_of_lt_of_le h2 hc.size, fun k hk => hc.cell (hn b off h1) (h3 k hk)⟩⟩
theorem bytes_tail {w : World} {b off n m : Nat} {zs : List Int} (h : BytesAt w (some ⟨b, off, none⟩) n zs) (hm : m < n) : BytesAt w (some ⟨b, off + m, none⟩) (n - m) (zs.drop m) := by
  refine ⟨by rw [List.length_drop, h.length], by have := h.most; omega, fun k => ?_, fun _ => ?_⟩
  · rw [List.getElem?_drop]; exact h.byte _
  · obtain ⟨b', off', e, hb, hc⟩ := h.cells (by omega)
    injection e with e; injection e with e1 e2; subst e1; subst e2
    refine ⟨_, _, rfl, hb, fun k hk => ?_⟩
    have := hc (m + k) (by omega)
    rw [List.getElem?_drop, Nat.add_assoc]; exact this
theorem range_map {zs : List Int} {n : Nat} (hl : zs.length = n) : (List.range n).map (fun i => zs[i]?.getD 0) = zs := by
  apply List.ext_getElem?
  intro i
  rw [List.getElem?_map]
  by_cases h : i < n
  · rw [List.getElem?_range h]
    show some (zs[i]?.getD 0) = zs[i]?
    rw [List.getElem?_eq_getElem (by omega)]; rfl
  · rw [List.getElem?_eq_none (by simp; omega), List.getElem?_eq_none (by omega)]; rfl
theorem built46 (g p c t l : Int) (f : Nat → Int) : Try.prog.built 46 [(0, .agg #[.int .i64 g, .int .i64 p, .int .i64 c, .int .i64 t, .int .i64 l]), (1, .agg (u8s ((List.range 48).map f)).toArray)] = some (cellV g p c t l ((List.range 48).map f)).toArray := by kernel_rfl
theorem build46 (g p c t l : Int) {zs : List Int} (hl : zs.length = 48) (w : World) : (Instr.build 46 #[(0, .agg #[.int .i64 g, .int .i64 p, .int .i64 c, .int .i64 t, .int .i64 l]), (1, .agg (u8s zs).toArray)]).run Try.prog w = .ok (.agg (cellV g p c t l zs).toArray) w := by
  have h := built46 g p c t l (fun i => zs[i]?.getD 0)
  rw [range_map hl] at h
  exact run_build w _ _ _ h
theorem wpQuiet_build46 {ops : Array Oper} {C : World → Prop} {Q : Act → Prop} {a : Act} {o : Oper} {rest : List Oper} {x y : Operand} {g p c t l : Int} {zs : List Int} (hg : o.guard = none) (ho : o.op = .build 46 #[(0, x), (1, y)]) (hx : a.eval x = .agg #[.int .i64 g, .int .i64 p, .int .i64 c, .int .i64 t, .int .i64 l]) (hy : a.eval y = .agg (u8s zs).toArray)
    (hl : zs.length = 48) (h : wpQuiet Try.prog ops C Q rest (a.put o.dst (.agg (cellV g p c t l zs).toArray))) : wpQuiet Try.prog ops C Q (o :: rest) a := by
  refine wpQuiet_run hg (fun w hw => ?_) h
  unfold execOp
  simp only [ho, List.map_toArray, List.map_cons, List.map_nil, hx, hy, Sem.run_bind, Sem.run_pure, Result.andThen_ok, build46 g p c t l hl]
theorem cellParse_take (p : Nat) (r d : Int) (c : Bool) (a : Option Addr) (cap : Nat) (zs : List Int) (nni : Bool) (w : World) (h : RecAt w p r d c) (r0 : 0 ≤ r) (r1 : r ≤ 1000000) (d0 : 0 ≤ d) (d1 : d ≤ 1000000) (hz : BytesAt w a 53 zs) (hc1 : 53 ≤ cap) (hc2 : cap ≤ 9223372036854775807) (hn : ∀ b off, a = some ⟨b, off, none⟩ → b ≠ p)
    (hd : drops c (zs.take 5) = false) :
    Calls Try.prog 34 #[.slice a 53 cap, .pointer (some ⟨p, 0, none⟩), .bool nni] w fun e w' => e = .returned (.tuple #[.agg (cellV (uG nni (takes c (zs.take 5))) (uP nni (takes c (zs.take 5))) (uC (takes c (zs.take 5))) (uT (takes c (zs.take 5))) (uL (takes c (zs.take 5))) (zs.drop 5)).toArray, .int .i64 0]) ∧ RecAt w' p (r + oneIf (fixes c (zs.take 5))) (d + oneIf (drops c (zs.take 5))) (synd (zs.take 5) != 0) ∧ Chg p w w' := by
  have hl := hz.length
  obtain ⟨x, y, z, u, v, h5⟩ : ∃ x y z u v, zs.take 5 = [x, y, z, u, v] := by
    have h5 : (zs.take 5).length = 5 := by simp; omega
    match zs.take 5, h5 with
    | [x, y, z, u, v], _ => exact ⟨x, y, z, u, v, rfl⟩
  obtain ⟨b, off, rfl, hb, hv, k0, k1, k2, k3, k4⟩ := hz.five (by omega) h5
  have hbp : b ≠ p := hn b off rfl
  have hpw := h.lt
  rw [h5] at hd ⊢
  obtain ⟨F, hF⟩ : ∃ F, fixes c [x, y, z, u, v] = F := ⟨_, rfl⟩
  obtain ⟨S, hS⟩ : ∃ S, (synd [x, y, z, u, v] != 0) = S := ⟨_, rfl⟩
  obtain ⟨t0, t1, t2, t3, hT⟩ := takes_four (c := c) (zs := [x, y, z, u, v]) rfl
  rw [hF, hS, hd, hT]
  obtain ⟨G, hG⟩ : ∃ G, uG nni [t0, t1, t2, t3] = G := ⟨_, rfl⟩
  obtain ⟨P, hP⟩ : ∃ P, uP nni [t0, t1, t2, t3] = P := ⟨_, rfl⟩
  obtain ⟨C, hC0⟩ : ∃ C, uC [t0, t1, t2, t3] = C := ⟨_, rfl⟩
  obtain ⟨T, hT0⟩ : ∃ T, uT [t0, t1, t2, t3] = T := ⟨_, rfl⟩
  obtain ⟨L, hL0⟩ : ∃ L, uL [t0, t1, t2, t3] = L := ⟨_, rfl⟩
  obtain ⟨ps, hps⟩ : ∃ ps, zs.drop 5 = ps := ⟨_, rfl⟩
  have hpl : ps.length = 48 := by rw [← hps]; simp [hl]
  have hPS : BytesAt w (some ⟨b, off + 5, none⟩) 48 ps := by
    rw [← hps]; exact bytes_tail hz (by omega)
  have htb : ∀ q ∈ [t0, t1, t2, t3], 0 ≤ q ∧ q < 256 := by rw [← hT]; exact takes_B hv
  have E5 : Hid (uG nni [t0, t1, t2, t3] = G ∧ uP nni [t0, t1, t2, t3] = P ∧ uC [t0, t1, t2, t3] = C ∧ uT [t0, t1, t2, t3] = T ∧ uL [t0, t1, t2, t3] = L) := ⟨hG, hP, hC0, hT0, hL0⟩
  rw [hG, hP, hC0, hT0, hL0, hps]
  clear hG hP hC0 hT0 hL0 hps
  have ha48 := arrB48
  have HF := Lib.hid hF
  have HS := Lib.hid hS
  have HD := Lib.hid hd
  have HT := Lib.hid hT
  have ha5 := arrB5
  clear hF hS hd hT h5
  go_enter Try.func34, Try.ntmps34
  go_wp2_with (first | (go_at_call 48; (refine (take_any p r d c x y z u v _ (h.below ?q0) r0 r1 d0 d1 hv).mono ?_); (case q0 => (repeat' (first | (with_reducible exact Below.refl _ _) | (with_reducible assumption) | (with_reducible refine below_drewN ?_ _) | (with_reducible refine Below.drew ?_) | ((with_reducible refine Below.alloc ?_ ?_ _); (rotate_left; focus (first | omega | (simp; done) | (simp; omega)))) | ((with_reducible refine Below.setCell ?_ ?_ _); (rotate_left; focus (first | omega | (simp; done) | (simp; omega)))) | (with_reducible refine Below.grown ?_ (by assumption) (by first | omega | (simp; omega)) (by simp [Value.ownBlock]; try omega)) | (with_reducible refine below_then ?_ (Aft.below _)) | (with_reducible apply below_then; rotate_left; assumption)))); rw [HF.out, HD.out, HS.out, HT.out, show agg4 [t0, t1, t2, t3] = .agg #[.int .u8 t0, .int .u8 t1, .int .u8 t2, .int .u8 t3] from rfl]; rintro e wt ⟨rfl, hR, hC⟩; have hs_wt := hC.size; (try simp at hs_wt); have hth : wt.there w.heap.size 0 53 := there_chg hC (by omega) (there_new rfl rfl)) | (go_at_call 20; ((refine (unpack_any (zs := [t0, t1, t2, t3]) (four_at ?q0 (cell_top rfl rfl) (cell_top rfl rfl) (cell_top rfl rfl) (cell_top rfl rfl) htb) nni).mono ?_)); (case q0 => (simp; done)); rw [E5.out.1, E5.out.2.1, E5.out.2.2.1, E5.out.2.2.2.1, E5.out.2.2.2.2]; rintro e wu ⟨rfl, hb_wu⟩; have hs_wu := hb_wu.size; (try simp at hs_wu); have hth2 : wu.there w.heap.size 0 53 := there_below (World.there_alloc hth _) hb_wu; have hP2 : BytesAt wu (some ⟨b, off + 5, none⟩) 48 ps := ((hPS.below (by (repeat' (first | (with_reducible exact Below.refl _ _) | (with_reducible assumption) | (with_reducible refine below_drewN ?_ _) | (with_reducible refine Below.drew ?_) | ((with_reducible refine Below.alloc ?_ ?_ _); (rotate_left; focus (first | omega | (simp; done) | (simp; omega)))) | ((with_reducible refine Below.setCell ?_ ?_ _); (rotate_left; focus (first | omega | (simp; done) | (simp; omega)))) | (with_reducible refine Below.grown ?_ (by assumption) (by first | omega | (simp; omega)) (by simp [Value.ownBlock]; try omega)) | (with_reducible refine below_then ?_ (Aft.below _)) | (with_reducible apply below_then; rotate_left; assumption))))).chgU hC (fun b' off' e => by injection e with e; injection e with e1 e2; omega)).below (by (repeat' (first | (with_reducible exact Below.refl _ _) | (with_reducible assumption) | (with_reducible refine below_drewN ?_ _) | (with_reducible refine Below.drew ?_) | ((with_reducible refine Below.alloc ?_ ?_ _); (rotate_left; focus (first | omega | (simp; done) | (simp; omega)))) | ((with_reducible refine Below.setCell ?_ ?_ _); (rotate_left; focus (first | omega | (simp; done) | (simp; omega)))) | (with_reducible refine Below.grown ?_ (by assumption) (by first | omega | (simp; omega)) (by simp [Value.ownBlock]; try omega)) | (with_reducible refine below_then ?_ (Aft.below _)) | (with_reducible apply below_then; rotate_left; assumption))))))
  refine region_tail_b 6 (by kernel_rfl) (by kernel_rfl) rfl ?_
  simp only [List.take_succ_cons, List.take_zero, List.drop_succ_cons, List.drop_zero]
  go_big_quiet_step (fail)
  go_big_quiet_step (fail)
  go_big_quiet_step (fail)
  go_big_quiet_step (fail)
  refine wpQuiet_load48 (zs := ps) rfl rfl rfl hpl ?_ ?_
  · intro w' hw'
    obtain ⟨_, rfl⟩ := hw'
    exact (BytesAt.drew (hP2.below (by (repeat' (first | (with_reducible exact Below.refl _ _) | (with_reducible assumption) | (with_reducible refine below_drewN ?_ _) | (with_reducible refine Below.drew ?_) | ((with_reducible refine Below.alloc ?_ ?_ _); (rotate_left; focus (first | omega | (simp; done) | (simp; omega)))) | ((with_reducible refine Below.setCell ?_ ?_ _); (rotate_left; focus (first | omega | (simp; done) | (simp; omega)))) | (with_reducible refine Below.grown ?_ (by assumption) (by first | omega | (simp; omega)) (by simp [Value.ownBlock]; try omega)) | (with_reducible refine below_then ?_ (Aft.below _)) | (with_reducible apply below_then; rotate_left; assumption)))))).range
  simp only [Act.put, List.setIfInBounds_toArray, List.set_cons_succ, List.set_cons_zero]
  refine wpQuiet_build46 (zs := ps) rfl rfl rfl rfl hpl ?_
  simp only [Act.put, List.setIfInBounds_toArray, List.set_cons_succ, List.set_cons_zero]
  refine wpQuiet_nil ?_
  go_wp2_with (refine wpList_store_mid (cells := (cellV G P C T L ps).toArray) ?sgd 46 (.tmp 6) (.tmp 45) ?sho w.heap.size 0 ?shx ?shy ?sht ?shi (one_cellV _ _ _ _ _ _) ?_; (case sho => rfl); (case sgd => rfl); (case shx => rfl); (case shy => rfl); (case sht => ((rw [show (cellV G P C T L ps).toArray.size = 53 by simp [hpl]]); (repeat (first | (with_reducible assumption) | (with_reducible refine there_drew ?_) | (with_reducible refine World.there_alloc ?_ _) | (with_reducible refine there_setCell ?_ _ _) | (with_reducible refine there_below ?_ (by assumption)) | exact there_new rfl rfl)))); (case shi => (rw [siz46]; simp [hpl])))
  refine bodyPost_ret (results46 rfl _ _ rfl ?_ (by simp [hpl])) rfl ⟨rfl, ?_, ?_⟩
  · (repeat (first | (with_reducible assumption) | (with_reducible refine there_drew ?_) | (with_reducible refine World.there_alloc ?_ _) | (with_reducible refine there_setCell ?_ _ _) | (with_reducible refine there_below ?_ (by assumption)) | exact there_new rfl rfl))
  · refine recAt_setCells _ _ ?_ (by omega)
    (repeat (first | (with_reducible assumption) | (with_reducible apply RecAt.set0) | (with_reducible apply RecAt.set1) | (with_reducible apply RecAt.set2) | ((with_reducible refine RecAt.beside ?_ ?_); (rotate_left; focus (first | omega | (simp; omega)))) | (with_reducible refine RecAt.alloc ?_ _) | (with_reducible refine RecAt.drewN ?_ _) | (with_reducible refine RecAt.drew ?_) | (with_reducible refine RecAt.below ?_ (by assumption))))
  · refine Chg.setCells _ _ ?_ (Nat.le_refl _)
    have hCp : Chg p w wt := (Chg.of (by (repeat' (first | (with_reducible exact Below.refl _ _) | (with_reducible assumption) | (with_reducible refine below_drewN ?_ _) | (with_reducible refine Below.drew ?_) | ((with_reducible refine Below.alloc ?_ ?_ _); (rotate_left; focus (first | omega | (simp; done) | (simp; omega)))) | ((with_reducible refine Below.setCell ?_ ?_ _); (rotate_left; focus (first | omega | (simp; done) | (simp; omega)))) | (with_reducible refine Below.grown ?_ (by assumption) (by first | omega | (simp; omega)) (by simp [Value.ownBlock]; try omega)) | (with_reducible refine below_then ?_ (Aft.below _)) | (with_reducible apply below_then; rotate_left; assumption))))).trans hC
    (repeat (first | (with_reducible exact Chg.refl _ _) | (with_reducible assumption) | (with_reducible refine Chg.setCell ?_ _ _) | ((with_reducible refine Chg.setNew ?_ ?_ _ _); (rotate_left; focus (first | omega | (simp; omega)))) | (with_reducible refine Chg.alloc ?_ _) | (with_reducible refine Chg.drewN ?_ _) | (with_reducible refine Chg.drew ?_) | (with_reducible refine Chg.then ?_ (by assumption))))
end Go.Proofs.Ytdlghiekcgplaaa
