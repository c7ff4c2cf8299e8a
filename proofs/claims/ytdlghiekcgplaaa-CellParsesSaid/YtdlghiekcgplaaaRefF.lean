/- The walk of the reference's Parse of layer 4. -/
import Derived.Test.YtdlghiekcgplaaaCellR
import Derived.Test.YtdlghiekcgplaaaRefE
import Derived.Test.YtdlghiekcgplaaaHecRK
namespace Go.Proofs.Ytdlghiekcgplaaa
set_option linter.unusedVariables false
set_option linter.unusedSimpArgs false
open Go.RowKit
set_option maxRecDepth 100000
set_option maxHeartbeats 4000000
theorem und23 : ∃ d, Try.prog.underlying 23 = some d ∧ d.isRow = true := ⟨_, by simp [go_sem]; rfl, rfl⟩
theorem siz23 : (Try.prog.info? 23).map (·.size) = some 5 := by kernel_rfl
theorem load23 {w : World} {b : Nat} {cs : List Value} (h : w.rangeAt b 0 cs) (hl : cs.length = 5) : (loadVar 23 ⟨b, 0, none⟩).run Try.prog w = .ok (.agg cs.toArray) w := by
  obtain ⟨d, h1, h2⟩ := und23
  exact run_loadVar_mid w b 0 _ cs d h h1 h2 (by rw [siz23, hl])
theorem results_ctt {P : Program} {fn : Func} {p u v : Tmp} {ty : TypeId} (h : fn.results = #[.cell p ty, .tmp u, .tmp v]) (tmps : Array Value) (w : World) {a : Addr} {x : Value} (hp : tmps.getD p undef = .pointer (some a)) (hl : (loadVar ty a).run P w = .ok x w) :
    (results fn tmps).run P w = .ok (.tuple #[x, tmps.getD u undef, tmps.getD v undef]) w := by
  have hp' : tmps[p]?.getD undef = .pointer (some a) := by simpa using hp
  simp [results, h, hp', asAddr, hl]
theorem results23 {fn : Func} {p u v : Tmp} (h : fn.results = #[.cell p 23, .tmp u, .tmp v]) (tmps : Array Value) (w : World) {b : Nat} {cs : List Value} (hp : tmps.getD p undef = .pointer (some ⟨b, 0, none⟩)) (ht : w.there b 0 5) (hl : cs.length = 5) :
    (results fn tmps).run Try.prog (w.setCells b 0 cs) = .ok (.tuple #[.agg cs.toArray, tmps.getD u undef, tmps.getD v undef]) (w.setCells b 0 cs) :=
  results_ctt h tmps _ hp (load23 (World.rangeAt_setCells_same _ _ _ _ (by rw [hl]; exact ht)) hl)
theorem one_hdr (g p c t l : Int) : (hdr5 g p c t l).toArray.all (·.oneCell') = true := all_oneCell_toArray (fun v hv => by
  simp only [hdr5, List.mem_cons, List.not_mem_nil, or_false] at hv
  rcases hv with h | h | h | h | h <;> (rw [h]; rfl))
theorem refAt_setCells {p b : Nat} {r d : Int} {c : Bool} : ∀ (vs : List Value) (o : Nat) {w : World}, RefAt w p c r d → p ≠ b → RefAt (w.setCells b o vs) p c r d
  | [], _, _, h, _ => h
  | v :: rest, o, w, h, hb => refAt_setCells rest (o + 1) (h.beside hb) hb
theorem bytes_setCells {a : Option Addr} {b n : Nat} {zs : List Int} : ∀ (vs : List Value) (o : Nat) {w : World}, BytesAt w a n zs → (∀ b' off, a = some ⟨b', off, none⟩ → b' ≠ b) → BytesAt (w.setCells b o vs) a n zs
  | [], _, _, h, _ => h
  | v :: rest, o, w, h, hb => bytes_setCells rest (o + 1) (h.setOther hb) hb
theorem cell_setCells {w : World} {b k o o' : Nat} {v : Value} (vs : List Value) (hn : k ≠ b) (h : w.cell? ⟨k, o, none⟩ = some v) : (w.setCells b o' vs).cell? ⟨k, o, none⟩ = some v := by
  rw [World.cell?_setCells_out b vs o' w ⟨k, o, none⟩ (fun e _ => absurd e hn)]; exact h
theorem refParse_short (a : Option Addr) (len cap : Nat) (B : Value) (nni : Bool) (w : World) (h : len < 53) :
    Calls Try.prog 37 #[.slice a len cap, B, .bool nni] w fun e w' => e = .returned (.tuple #[.agg (hdr5 0 0 0 0 0).toArray, .slice none 0 0, .int .i64 2]) ∧ Below w.heap.size w w' := by
  have h1 : (len : Int) < 53 := by omega
  go_enter Try.func37, Try.ntmps37
  go_wp2
  refine bodyPost_ret (results_ctt rfl _ _ rfl (load23 (cs := hdr5 0 0 0 0 0) (fun j v hv => cell_top rfl (by simpa using hv)) rfl)) rfl ⟨rfl, ?_⟩
  (repeat' (first | (with_reducible exact Below.refl _ _) | (with_reducible assumption) | (with_reducible refine below_drewN ?_ _) | (with_reducible refine Below.drew ?_) | ((with_reducible refine Below.alloc ?_ ?_ _); (rotate_left; focus (first | omega | (simp; done) | (simp; omega)))) | ((with_reducible refine Below.setCell ?_ ?_ _); (rotate_left; focus (first | omega | (simp; done) | (simp; omega)))) | (with_reducible refine Below.grown ?_ (by assumption) (by first | omega | (simp; omega)) (by simp [Value.ownBlock]; try omega)) | (with_reducible refine below_then ?_ (Aft.below _)) | (with_reducible apply below_then; rotate_left; assumption)))
theorem refParse_long (a : Option Addr) (len cap : Nat) (B : Value) (nni : Bool) (w : World) (h : 53 < len) :
    Calls Try.prog 37 #[.slice a len cap, B, .bool nni] w fun e w' => e = .returned (.tuple #[.agg (hdr5 0 0 0 0 0).toArray, .slice none 0 0, .int .i64 3]) ∧ Below w.heap.size w w' := by
  have h1 : ¬ (len : Int) < 53 := by omega
  have h2 : (53 : Int) < len := by omega
  go_enter Try.func37, Try.ntmps37
  go_wp2
  refine bodyPost_ret (results_ctt rfl _ _ rfl (load23 (cs := hdr5 0 0 0 0 0) (fun j v hv => cell_top rfl (by simpa using hv)) rfl)) rfl ⟨rfl, ?_⟩
  (repeat' (first | (with_reducible exact Below.refl _ _) | (with_reducible assumption) | (with_reducible refine below_drewN ?_ _) | (with_reducible refine Below.drew ?_) | ((with_reducible refine Below.alloc ?_ ?_ _); (rotate_left; focus (first | omega | (simp; done) | (simp; omega)))) | ((with_reducible refine Below.setCell ?_ ?_ _); (rotate_left; focus (first | omega | (simp; done) | (simp; omega)))) | (with_reducible refine Below.grown ?_ (by assumption) (by first | omega | (simp; omega)) (by simp [Value.ownBlock]; try omega)) | (with_reducible refine below_then ?_ (Aft.below _)) | (with_reducible apply below_then; rotate_left; assumption)))
theorem refParse_drop (p : Nat) (r d : Int) (c : Bool) (a : Option Addr) (cap : Nat) (zs : List Int) (nni : Bool) (w : World) (h : RefAt w p c r d) (r0 : 0 ≤ r) (r1 : r ≤ 1000000) (d0 : 0 ≤ d) (d1 : d ≤ 1000000) (hz : BytesAt w a 53 zs) (na : a = none → cap = 0) (hc1 : 53 ≤ cap) (hc2 : cap ≤ 9223372036854775807) (hn : ∀ b off, a = some ⟨b, off, none⟩ → b ≠ p)
    (hd : drops c (zs.take 5) = true) :
    Calls Try.prog 37 #[.slice a 53 cap, .pointer (some ⟨p, 0, none⟩), .bool nni] w fun e w' => e = .returned (.tuple #[.agg (hdr5 0 0 0 0 0).toArray, .slice none 0 0, .int .i64 4]) ∧ RefAt w' p (synd (zs.take 5) != 0) (r + oneIf (fixes c (zs.take 5))) (d + oneIf (drops c (zs.take 5))) ∧ Chg p w w' := by
  have hl := hz.length
  obtain ⟨five, h5⟩ : ∃ five, zs.take 5 = five := ⟨_, rfl⟩
  have hz5 : BytesAt w a 5 five := by rw [← h5]; exact hz.head (by omega) (by omega)
  have hpw := h.lt
  rw [h5] at hd ⊢
  obtain ⟨F, hF⟩ : ∃ F, fixes c five = F := ⟨_, rfl⟩
  obtain ⟨S, hS⟩ : ∃ S, (synd five != 0) = S := ⟨_, rfl⟩
  obtain ⟨tk, hT⟩ : ∃ tk, takes c five = tk := ⟨_, rfl⟩
  rw [hF, hS, hd]
  have HF := Lib.hid hF
  have HS := Lib.hid hS
  have HD := Lib.hid hd
  have HT := Lib.hid hT
  clear hF hS hd hT h5
  obtain ⟨b, off, rfl, hb, _⟩ := hz.cells (by omega)
  have hbp : b ≠ p := hn b off rfl
  go_enter Try.func37, Try.ntmps37
  go_wp2_with (first | (go_at_call 49; (refine (refTake_any p r d c (some ⟨b, off, none⟩) cap five _ (h.below ?q0) r0 r1 d0 d1 (hz5.below ?q1) na (by omega) hc2 hn).mono ?_); (case q0 => (repeat' (first | (with_reducible exact Below.refl _ _) | (with_reducible assumption) | (with_reducible refine below_drewN ?_ _) | (with_reducible refine Below.drew ?_) | ((with_reducible refine Below.alloc ?_ ?_ _); (rotate_left; focus (first | omega | (simp; done) | (simp; omega)))) | ((with_reducible refine Below.setCell ?_ ?_ _); (rotate_left; focus (first | omega | (simp; done) | (simp; omega)))) | (with_reducible refine Below.grown ?_ (by assumption) (by first | omega | (simp; omega)) (by simp [Value.ownBlock]; try omega)) | (with_reducible refine below_then ?_ (Aft.below _)) | (with_reducible apply below_then; rotate_left; assumption)))); (case q1 => (repeat' (first | (with_reducible exact Below.refl _ _) | (with_reducible assumption) | (with_reducible refine below_drewN ?_ _) | (with_reducible refine Below.drew ?_) | ((with_reducible refine Below.alloc ?_ ?_ _); (rotate_left; focus (first | omega | (simp; done) | (simp; omega)))) | ((with_reducible refine Below.setCell ?_ ?_ _); (rotate_left; focus (first | omega | (simp; done) | (simp; omega)))) | (with_reducible refine Below.grown ?_ (by assumption) (by first | omega | (simp; omega)) (by simp [Value.ownBlock]; try omega)) | (with_reducible refine below_then ?_ (Aft.below _)) | (with_reducible apply below_then; rotate_left; assumption)))); rw [HF.out, HD.out, HS.out, HT.out]; rintro e wt ⟨⟨tg, tc, rfl, hTB⟩, hR, hC⟩; have hs_wt := hC.size; (try simp at hs_wt); have hth : wt.there w.heap.size 0 5 := there_chg hC (by omega) (there_new rfl rfl)) | (refine wpList_store_mid (cells := (hdr5 0 0 0 0 0).toArray) ?sgd 23 (.tmp 6) (.tmp 30) ?sho w.heap.size 0 ?shx ?shy ?sht ?shi (one_hdr _ _ _ _ _) ?_; (case sho => rfl); (case sgd => rfl); (case shx => rfl); (case shy => rfl); (case sht => (show World.there _ _ _ 5; (repeat (first | (with_reducible assumption) | (with_reducible refine there_drew ?_) | (with_reducible refine World.there_alloc ?_ _) | (with_reducible refine there_setCell ?_ _ _) | (with_reducible refine there_below ?_ (by assumption)) | exact there_new rfl rfl)))); (case shi => (rw [siz23]; rfl))))
  have hCp : Chg p w wt := (Chg.of (by (repeat' (first | (with_reducible exact Below.refl _ _) | (with_reducible assumption) | (with_reducible refine below_drewN ?_ _) | (with_reducible refine Below.drew ?_) | ((with_reducible refine Below.alloc ?_ ?_ _); (rotate_left; focus (first | omega | (simp; done) | (simp; omega)))) | ((with_reducible refine Below.setCell ?_ ?_ _); (rotate_left; focus (first | omega | (simp; done) | (simp; omega)))) | (with_reducible refine Below.grown ?_ (by assumption) (by first | omega | (simp; omega)) (by simp [Value.ownBlock]; try omega)) | (with_reducible refine below_then ?_ (Aft.below _)) | (with_reducible apply below_then; rotate_left; assumption))))).trans hC
  refine bodyPost_ret (results23 rfl _ _ rfl ?_ rfl) rfl ⟨rfl, ?_, ?_⟩
  · (repeat (first | (with_reducible assumption) | (with_reducible refine there_drew ?_) | (with_reducible refine World.there_alloc ?_ _) | (with_reducible refine there_setCell ?_ _ _) | (with_reducible refine there_below ?_ (by assumption)) | exact there_new rfl rfl))
  · refine refAt_setCells _ _ ?_ (by omega)
    (repeat (first | (with_reducible assumption) | (with_reducible apply RefAt.set0) | (with_reducible apply RefAt.set1) | (with_reducible apply RefAt.set2) | ((with_reducible refine RefAt.beside ?_ ?_); (rotate_left; focus (first | omega | (simp; omega)))) | (with_reducible refine RefAt.alloc ?_ _) | (with_reducible refine RefAt.drewN ?_ _) | (with_reducible refine RefAt.drew ?_) | (with_reducible refine RefAt.below ?_ (by assumption))))
  · refine Chg.setCells _ _ ?_ (Nat.le_refl _)
    (repeat (first | (with_reducible exact Chg.refl _ _) | (with_reducible assumption) | (with_reducible refine Chg.setCell ?_ _ _) | ((with_reducible refine Chg.setNew ?_ ?_ _ _); (rotate_left; focus (first | omega | (simp; omega)))) | (with_reducible refine Chg.alloc ?_ _) | (with_reducible refine Chg.drewN ?_ _) | (with_reducible refine Chg.drew ?_) | (with_reducible refine Chg.then ?_ (by assumption))))
theorem refParse_take (p : Nat) (r d : Int) (c : Bool) (a : Option Addr) (cap : Nat) (zs : List Int) (nni : Bool) (w : World) (h : RefAt w p c r d) (r0 : 0 ≤ r) (r1 : r ≤ 1000000) (d0 : 0 ≤ d) (d1 : d ≤ 1000000) (hz : BytesAt w a 53 zs) (na : a = none → cap = 0) (hc1 : 53 ≤ cap) (hc2 : cap ≤ 9223372036854775807) (hn : ∀ b off, a = some ⟨b, off, none⟩ → b ≠ p)
    (hd : drops c (zs.take 5) = false) :
    Calls Try.prog 37 #[.slice a 53 cap, .pointer (some ⟨p, 0, none⟩), .bool nni] w fun e w' => (∃ g cc, e = .returned (.tuple #[.agg (hdr5 (uG nni (takes c (zs.take 5))) (uP nni (takes c (zs.take 5))) (uC (takes c (zs.take 5))) (uT (takes c (zs.take 5))) (uL (takes c (zs.take 5)))).toArray, .slice g 48 cc, .int .i64 0]) ∧ BytesAt w' g 48 (zs.drop 5)) ∧ RefAt w' p (synd (zs.take 5) != 0) (r + oneIf (fixes c (zs.take 5))) (d + oneIf (drops c (zs.take 5))) ∧ Chg p w w' := by
  have hl := hz.length
  obtain ⟨five, h5⟩ : ∃ five, zs.take 5 = five := ⟨_, rfl⟩
  have hz5 : BytesAt w a 5 five := by rw [← h5]; exact hz.head (by omega) (by omega)
  have hpw := h.lt
  rw [h5] at hd ⊢
  obtain ⟨F, hF⟩ : ∃ F, fixes c five = F := ⟨_, rfl⟩
  obtain ⟨S, hS⟩ : ∃ S, (synd five != 0) = S := ⟨_, rfl⟩
  obtain ⟨tk, hT⟩ : ∃ tk, takes c five = tk := ⟨_, rfl⟩
  rw [hF, hS, hd, hT]
  obtain ⟨G, hG⟩ : ∃ G, uG nni tk = G := ⟨_, rfl⟩
  obtain ⟨P, hP⟩ : ∃ P, uP nni tk = P := ⟨_, rfl⟩
  obtain ⟨C, hC0⟩ : ∃ C, uC tk = C := ⟨_, rfl⟩
  obtain ⟨T, hT0⟩ : ∃ T, uT tk = T := ⟨_, rfl⟩
  obtain ⟨L, hL0⟩ : ∃ L, uL tk = L := ⟨_, rfl⟩
  obtain ⟨ps, hps⟩ : ∃ ps, zs.drop 5 = ps := ⟨_, rfl⟩
  have hpl : ps.length = 48 := by rw [← hps]; simp [hl]
  have E5 : Hid (uG nni tk = G ∧ uP nni tk = P ∧ uC tk = C ∧ uT tk = T ∧ uL tk = L) := ⟨hG, hP, hC0, hT0, hL0⟩
  rw [hG, hP, hC0, hT0, hL0, hps]
  have HPS := Lib.hid hps
  clear hG hP hC0 hT0 hL0 hps
  have HF := Lib.hid hF
  have HS := Lib.hid hS
  have HD := Lib.hid hd
  have HT := Lib.hid hT
  clear hF hS hd hT h5
  obtain ⟨b, off, rfl, hb, _⟩ := hz.cells (by omega)
  have hbp : b ≠ p := hn b off rfl
  go_enter Try.func37, Try.ntmps37
  have hPS : BytesAt w (some ⟨b, off + 5, none⟩) 48 ps := by rw [← HPS.out]; exact bytes_tail hz (by omega)
  go_wp2_with (first | (go_at_call 49; (refine (refTake_any p r d c (some ⟨b, off, none⟩) cap five _ (h.below ?q0) r0 r1 d0 d1 (hz5.below ?q1) na (by omega) hc2 hn).mono ?_); (case q0 => (repeat' (first | (with_reducible exact Below.refl _ _) | (with_reducible assumption) | (with_reducible refine below_drewN ?_ _) | (with_reducible refine Below.drew ?_) | ((with_reducible refine Below.alloc ?_ ?_ _); (rotate_left; focus (first | omega | (simp; done) | (simp; omega)))) | ((with_reducible refine Below.setCell ?_ ?_ _); (rotate_left; focus (first | omega | (simp; done) | (simp; omega)))) | (with_reducible refine Below.grown ?_ (by assumption) (by first | omega | (simp; omega)) (by simp [Value.ownBlock]; try omega)) | (with_reducible refine below_then ?_ (Aft.below _)) | (with_reducible apply below_then; rotate_left; assumption)))); (case q1 => (repeat' (first | (with_reducible exact Below.refl _ _) | (with_reducible assumption) | (with_reducible refine below_drewN ?_ _) | (with_reducible refine Below.drew ?_) | ((with_reducible refine Below.alloc ?_ ?_ _); (rotate_left; focus (first | omega | (simp; done) | (simp; omega)))) | ((with_reducible refine Below.setCell ?_ ?_ _); (rotate_left; focus (first | omega | (simp; done) | (simp; omega)))) | (with_reducible refine Below.grown ?_ (by assumption) (by first | omega | (simp; omega)) (by simp [Value.ownBlock]; try omega)) | (with_reducible refine below_then ?_ (Aft.below _)) | (with_reducible apply below_then; rotate_left; assumption)))); rw [HF.out, HD.out, HS.out, HT.out]; rintro e wt ⟨⟨tg, tc, rfl, hTB⟩, hR, hC⟩; have hs_wt := hC.size; (try simp at hs_wt); have hth : wt.there w.heap.size 0 5 := there_chg hC (by omega) (there_new rfl rfl)) | (go_at_call 21; ((refine (refUnpack_any (zs := tk) hTB nni).mono ?_)); rw [E5.out.1, E5.out.2.1, E5.out.2.2.1, E5.out.2.2.2.1, E5.out.2.2.2.2]; rintro e wu ⟨rfl, hb_wu⟩; have hs_wu := hb_wu.size; (try simp at hs_wu); have hth2 : wu.there w.heap.size 0 5 := there_below hth hb_wu; have hP2 : BytesAt wu (some ⟨b, off + 5, none⟩) 48 ps := ((hPS.below (by (repeat' (first | (with_reducible exact Below.refl _ _) | (with_reducible assumption) | (with_reducible refine below_drewN ?_ _) | (with_reducible refine Below.drew ?_) | ((with_reducible refine Below.alloc ?_ ?_ _); (rotate_left; focus (first | omega | (simp; done) | (simp; omega)))) | ((with_reducible refine Below.setCell ?_ ?_ _); (rotate_left; focus (first | omega | (simp; done) | (simp; omega)))) | (with_reducible refine Below.grown ?_ (by assumption) (by first | omega | (simp; omega)) (by simp [Value.ownBlock]; try omega)) | (with_reducible refine below_then ?_ (Aft.below _)) | (with_reducible apply below_then; rotate_left; assumption))))).chgU hC (fun b' off' e => by injection e with e; injection e with e1 e2; omega)).below hb_wu))
  obtain ⟨W, hW⟩ : ∃ W, W = wu.alloc (.cells #[.int .i64 G, .int .i64 P, .int .i64 C, .int .i64 T, .int .i64 L] 23) := ⟨_, rfl⟩
  rw [← hW]
  have w0 : W.cell? ⟨wu.heap.size, 0, none⟩ = some (.int .i64 G) := by rw [hW]; exact cell_top rfl rfl
  have w1 : W.cell? ⟨wu.heap.size, 1, none⟩ = some (.int .i64 P) := by rw [hW]; exact cell_top rfl rfl
  have w2 : W.cell? ⟨wu.heap.size, 2, none⟩ = some (.int .i64 C) := by rw [hW]; exact cell_top rfl rfl
  have w3 : W.cell? ⟨wu.heap.size, 3, none⟩ = some (.int .i64 T) := by rw [hW]; exact cell_top rfl rfl
  have w4 : W.cell? ⟨wu.heap.size, 4, none⟩ = some (.int .i64 L) := by rw [hW]; exact cell_top rfl rfl
  have hth3 : W.there w.heap.size 0 5 := by rw [hW]; exact World.there_alloc hth2 _
  have hP3 : BytesAt W (some ⟨b, off + 5, none⟩) 48 ps := by rw [hW]; exact hP2.below (by (repeat' (first | (with_reducible exact Below.refl _ _) | (with_reducible assumption) | (with_reducible refine below_drewN ?_ _) | (with_reducible refine Below.drew ?_) | ((with_reducible refine Below.alloc ?_ ?_ _); (rotate_left; focus (first | omega | (simp; done) | (simp; omega)))) | ((with_reducible refine Below.setCell ?_ ?_ _); (rotate_left; focus (first | omega | (simp; done) | (simp; omega)))) | (with_reducible refine Below.grown ?_ (by assumption) (by first | omega | (simp; omega)) (by simp [Value.ownBlock]; try omega)) | (with_reducible refine below_then ?_ (Aft.below _)) | (with_reducible apply below_then; rotate_left; assumption))))
  have hRw : RefAt W p S (r + oneIf F) (d + oneIf false) := by rw [hW]; exact (hR.below hb_wu).alloc _
  have hCW : Chg p w W := by
    rw [hW]
    have hCp : Chg p w wt := (Chg.of (by (repeat' (first | (with_reducible exact Below.refl _ _) | (with_reducible assumption) | (with_reducible refine below_drewN ?_ _) | (with_reducible refine Below.drew ?_) | ((with_reducible refine Below.alloc ?_ ?_ _); (rotate_left; focus (first | omega | (simp; done) | (simp; omega)))) | ((with_reducible refine Below.setCell ?_ ?_ _); (rotate_left; focus (first | omega | (simp; done) | (simp; omega)))) | (with_reducible refine Below.grown ?_ (by assumption) (by first | omega | (simp; omega)) (by simp [Value.ownBlock]; try omega)) | (with_reducible refine below_then ?_ (Aft.below _)) | (with_reducible apply below_then; rotate_left; assumption))))).trans hC
    exact (hCp.then hb_wu).alloc _
  have hsW : w.heap.size < W.heap.size ∧ p < W.heap.size ∧ b < W.heap.size ∧ wu.heap.size < W.heap.size := by rw [hW]; simp; omega
  clear hW hth hth2 hP2 hR hC hb_wu hTB
  refine wp_region_lead (fun w' => w'.cell? ⟨wu.heap.size, 0, none⟩ = some (.int .i64 G) ∧ w'.cell? ⟨wu.heap.size, 1, none⟩ = some (.int .i64 P) ∧ w'.cell? ⟨wu.heap.size, 2, none⟩ = some (.int .i64 C) ∧ w'.cell? ⟨wu.heap.size, 3, none⟩ = some (.int .i64 T) ∧ w'.cell? ⟨wu.heap.size, 4, none⟩ = some (.int .i64 L)) [1, 4, 5, 6, 7] [0, 2, 3, 1, 4, 5, 6, 7] _ (by kernel_rfl) (by kernel_rfl) (by kernel_rfl) (by simp only [List.filterMap_cons, List.getElem?_cons_zero, List.getElem?_cons_succ, Option.map_some, List.filterMap_nil]; rfl) rfl rfl ⟨w0, w1, w2, w3, w4⟩ ?_
  refine lead_quiet_n 3 rfl ⟨w0, w1, w2, w3, w4⟩ ?_
  intro _
  simp only [List.take_succ_cons, List.take_zero, List.drop_succ_cons, List.drop_zero, List.map_cons, List.map_nil]
  have g0 := fun g : Wits (fun w' => w'.cell? ⟨wu.heap.size, 0, none⟩ = some (.int .i64 G) ∧ w'.cell? ⟨wu.heap.size, 1, none⟩ = some (.int .i64 P) ∧ w'.cell? ⟨wu.heap.size, 2, none⟩ = some (.int .i64 C) ∧ w'.cell? ⟨wu.heap.size, 3, none⟩ = some (.int .i64 T) ∧ w'.cell? ⟨wu.heap.size, 4, none⟩ = some (.int .i64 L)) => g.is.1
  have g1 := fun g : Wits (fun w' => w'.cell? ⟨wu.heap.size, 0, none⟩ = some (.int .i64 G) ∧ w'.cell? ⟨wu.heap.size, 1, none⟩ = some (.int .i64 P) ∧ w'.cell? ⟨wu.heap.size, 2, none⟩ = some (.int .i64 C) ∧ w'.cell? ⟨wu.heap.size, 3, none⟩ = some (.int .i64 T) ∧ w'.cell? ⟨wu.heap.size, 4, none⟩ = some (.int .i64 L)) => g.is.2.1
  have g2 := fun g : Wits (fun w' => w'.cell? ⟨wu.heap.size, 0, none⟩ = some (.int .i64 G) ∧ w'.cell? ⟨wu.heap.size, 1, none⟩ = some (.int .i64 P) ∧ w'.cell? ⟨wu.heap.size, 2, none⟩ = some (.int .i64 C) ∧ w'.cell? ⟨wu.heap.size, 3, none⟩ = some (.int .i64 T) ∧ w'.cell? ⟨wu.heap.size, 4, none⟩ = some (.int .i64 L)) => g.is.2.2.1
  have g3 := fun g : Wits (fun w' => w'.cell? ⟨wu.heap.size, 0, none⟩ = some (.int .i64 G) ∧ w'.cell? ⟨wu.heap.size, 1, none⟩ = some (.int .i64 P) ∧ w'.cell? ⟨wu.heap.size, 2, none⟩ = some (.int .i64 C) ∧ w'.cell? ⟨wu.heap.size, 3, none⟩ = some (.int .i64 T) ∧ w'.cell? ⟨wu.heap.size, 4, none⟩ = some (.int .i64 L)) => g.is.2.2.2.1
  have g4 := fun g : Wits (fun w' => w'.cell? ⟨wu.heap.size, 0, none⟩ = some (.int .i64 G) ∧ w'.cell? ⟨wu.heap.size, 1, none⟩ = some (.int .i64 P) ∧ w'.cell? ⟨wu.heap.size, 2, none⟩ = some (.int .i64 C) ∧ w'.cell? ⟨wu.heap.size, 3, none⟩ = some (.int .i64 T) ∧ w'.cell? ⟨wu.heap.size, 4, none⟩ = some (.int .i64 L)) => g.is.2.2.2.2
  (repeat (go_big_quiet_step (fail)))
  refine wpQuiet_nil ?_
  clear g0 g1 g2 g3 g4
  refine lead_one rfl ?_ ⟨w0, w1, w2, w3, w4⟩
  go_wp2
  refine ⟨rfl, ⟨by (repeat (first | (with_reducible assumption) | ((with_reducible refine cell_top ?_ rfl); first | (with_reducible rfl) | (simp; done)) | (with_reducible apply cell_drew) | (with_reducible apply cell_drewN) | ((with_reducible apply cell_keep); focus (with_reducible assumption)) | (with_reducible refine cell_keep (Aft.below _) ?_) | (with_reducible apply cell_set) | ((with_reducible apply cell_off); focus (decide)) | ((with_reducible apply cell_beside); focus (first | omega | (simp; done) | (simp; omega))) | ((with_reducible apply cell_under); focus (first | omega | (simp; done) | (simp; omega))))), by (repeat (first | (with_reducible assumption) | ((with_reducible refine cell_top ?_ rfl); first | (with_reducible rfl) | (simp; done)) | (with_reducible apply cell_drew) | (with_reducible apply cell_drewN) | ((with_reducible apply cell_keep); focus (with_reducible assumption)) | (with_reducible refine cell_keep (Aft.below _) ?_) | (with_reducible apply cell_set) | ((with_reducible apply cell_off); focus (decide)) | ((with_reducible apply cell_beside); focus (first | omega | (simp; done) | (simp; omega))) | ((with_reducible apply cell_under); focus (first | omega | (simp; done) | (simp; omega))))), by (repeat (first | (with_reducible assumption) | ((with_reducible refine cell_top ?_ rfl); first | (with_reducible rfl) | (simp; done)) | (with_reducible apply cell_drew) | (with_reducible apply cell_drewN) | ((with_reducible apply cell_keep); focus (with_reducible assumption)) | (with_reducible refine cell_keep (Aft.below _) ?_) | (with_reducible apply cell_set) | ((with_reducible apply cell_off); focus (decide)) | ((with_reducible apply cell_beside); focus (first | omega | (simp; done) | (simp; omega))) | ((with_reducible apply cell_under); focus (first | omega | (simp; done) | (simp; omega))))), by (repeat (first | (with_reducible assumption) | ((with_reducible refine cell_top ?_ rfl); first | (with_reducible rfl) | (simp; done)) | (with_reducible apply cell_drew) | (with_reducible apply cell_drewN) | ((with_reducible apply cell_keep); focus (with_reducible assumption)) | (with_reducible refine cell_keep (Aft.below _) ?_) | (with_reducible apply cell_set) | ((with_reducible apply cell_off); focus (decide)) | ((with_reducible apply cell_beside); focus (first | omega | (simp; done) | (simp; omega))) | ((with_reducible apply cell_under); focus (first | omega | (simp; done) | (simp; omega))))), by (repeat (first | (with_reducible assumption) | ((with_reducible refine cell_top ?_ rfl); first | (with_reducible rfl) | (simp; done)) | (with_reducible apply cell_drew) | (with_reducible apply cell_drewN) | ((with_reducible apply cell_keep); focus (with_reducible assumption)) | (with_reducible refine cell_keep (Aft.below _) ?_) | (with_reducible apply cell_set) | ((with_reducible apply cell_off); focus (decide)) | ((with_reducible apply cell_beside); focus (first | omega | (simp; done) | (simp; omega))) | ((with_reducible apply cell_under); focus (first | omega | (simp; done) | (simp; omega)))))⟩, ?_⟩
  refine lead_one rfl ?_ ⟨by (repeat (first | (with_reducible assumption) | ((with_reducible refine cell_top ?_ rfl); first | (with_reducible rfl) | (simp; done)) | (with_reducible apply cell_drew) | (with_reducible apply cell_drewN) | ((with_reducible apply cell_keep); focus (with_reducible assumption)) | (with_reducible refine cell_keep (Aft.below _) ?_) | (with_reducible apply cell_set) | ((with_reducible apply cell_off); focus (decide)) | ((with_reducible apply cell_beside); focus (first | omega | (simp; done) | (simp; omega))) | ((with_reducible apply cell_under); focus (first | omega | (simp; done) | (simp; omega))))), by (repeat (first | (with_reducible assumption) | ((with_reducible refine cell_top ?_ rfl); first | (with_reducible rfl) | (simp; done)) | (with_reducible apply cell_drew) | (with_reducible apply cell_drewN) | ((with_reducible apply cell_keep); focus (with_reducible assumption)) | (with_reducible refine cell_keep (Aft.below _) ?_) | (with_reducible apply cell_set) | ((with_reducible apply cell_off); focus (decide)) | ((with_reducible apply cell_beside); focus (first | omega | (simp; done) | (simp; omega))) | ((with_reducible apply cell_under); focus (first | omega | (simp; done) | (simp; omega))))), by (repeat (first | (with_reducible assumption) | ((with_reducible refine cell_top ?_ rfl); first | (with_reducible rfl) | (simp; done)) | (with_reducible apply cell_drew) | (with_reducible apply cell_drewN) | ((with_reducible apply cell_keep); focus (with_reducible assumption)) | (with_reducible refine cell_keep (Aft.below _) ?_) | (with_reducible apply cell_set) | ((with_reducible apply cell_off); focus (decide)) | ((with_reducible apply cell_beside); focus (first | omega | (simp; done) | (simp; omega))) | ((with_reducible apply cell_under); focus (first | omega | (simp; done) | (simp; omega))))), by (repeat (first | (with_reducible assumption) | ((with_reducible refine cell_top ?_ rfl); first | (with_reducible rfl) | (simp; done)) | (with_reducible apply cell_drew) | (with_reducible apply cell_drewN) | ((with_reducible apply cell_keep); focus (with_reducible assumption)) | (with_reducible refine cell_keep (Aft.below _) ?_) | (with_reducible apply cell_set) | ((with_reducible apply cell_off); focus (decide)) | ((with_reducible apply cell_beside); focus (first | omega | (simp; done) | (simp; omega))) | ((with_reducible apply cell_under); focus (first | omega | (simp; done) | (simp; omega))))), by (repeat (first | (with_reducible assumption) | ((with_reducible refine cell_top ?_ rfl); first | (with_reducible rfl) | (simp; done)) | (with_reducible apply cell_drew) | (with_reducible apply cell_drewN) | ((with_reducible apply cell_keep); focus (with_reducible assumption)) | (with_reducible refine cell_keep (Aft.below _) ?_) | (with_reducible apply cell_set) | ((with_reducible apply cell_off); focus (decide)) | ((with_reducible apply cell_beside); focus (first | omega | (simp; done) | (simp; omega))) | ((with_reducible apply cell_under); focus (first | omega | (simp; done) | (simp; omega)))))⟩
  go_wp2_with (at_builtin; refine wpList_append_bytes rfl _ _ rfl (v := .slice (some ⟨W.heap.size, 0, none⟩) 0 0) (n := 0) (xs := []) (ad := some ⟨b, off + 5, none⟩) (m := 48) (c := cap - 5) (ys := ps) (base := W.heap.size) rfl ?hd1 rfl ?hd2 (fun h => nomatch h) (by decide) ?hd3 ?hdx; (case hd1 => exact own_empty W); (case hd2 => exact hP3.below (by (repeat' (first | (with_reducible exact Below.refl _ _) | (with_reducible assumption) | (with_reducible refine below_drewN ?_ _) | (with_reducible refine Below.drew ?_) | ((with_reducible refine Below.alloc ?_ ?_ _); (rotate_left; focus (first | omega | (simp; done) | (simp; omega)))) | ((with_reducible refine Below.setCell ?_ ?_ _); (rotate_left; focus (first | omega | (simp; done) | (simp; omega)))) | (with_reducible refine Below.grown ?_ (by assumption) (by first | omega | (simp; omega)) (by simp [Value.ownBlock]; try omega)) | (with_reducible refine below_then ?_ (Aft.below _)) | (with_reducible apply below_then; rotate_left; assumption))))); (case hd3 => (simp; done)); intro v5 w5 hown5 hgr5; simp only [Nat.zero_add, List.nil_append] at hown5; have hs5 := hgr5.size; obtain ⟨a5, c5, rfl, hc5, hc5m, H5, F5, N5⟩ := hown5.at (by omega); have hB5 : Below W.heap.size W w5 := (by refine Below.trans ?_ hgr5; (repeat' (first | (with_reducible exact Below.refl _ _) | (with_reducible assumption) | (with_reducible refine below_drewN ?_ _) | (with_reducible refine Below.drew ?_) | ((with_reducible refine Below.alloc ?_ ?_ _); (rotate_left; focus (first | omega | (simp; done) | (simp; omega)))) | ((with_reducible refine Below.setCell ?_ ?_ _); (rotate_left; focus (first | omega | (simp; done) | (simp; omega)))) | (with_reducible refine Below.grown ?_ (by assumption) (by first | omega | (simp; omega)) (by simp [Value.ownBlock]; try omega)) | (with_reducible refine below_then ?_ (Aft.below _)) | (with_reducible apply below_then; rotate_left; assumption)))); have hth5 : w5.there w.heap.size 0 5 := there_below hth3 hB5; have v0 : w5.cell? ⟨wu.heap.size, 0, none⟩ = some (.int .i64 G) := cell_keep hB5 w0; have v1 : w5.cell? ⟨wu.heap.size, 1, none⟩ = some (.int .i64 P) := cell_keep hB5 w1; have v2 : w5.cell? ⟨wu.heap.size, 2, none⟩ = some (.int .i64 C) := cell_keep hB5 w2; have v3 : w5.cell? ⟨wu.heap.size, 3, none⟩ = some (.int .i64 T) := cell_keep hB5 w3; have v4 : w5.cell? ⟨wu.heap.size, 4, none⟩ = some (.int .i64 L) := cell_keep hB5 w4)
  refine ⟨rfl, ⟨v0, v1, v2, v3, v4⟩, ?_⟩
  refine lead_one rfl ?_ ⟨v0, v1, v2, v3, v4⟩
  go_wp2_with (refine wpList_store_mid (cells := (hdr5 G P C T L).toArray) ?sgd 23 (.tmp 6) (.tmp 37) ?sho w.heap.size 0 ?shx ?shy ?sht ?shi (one_hdr _ _ _ _ _) ?_; (case sho => rfl); (case sgd => rfl); (case shx => rfl); (case shy => rfl); (case sht => (show World.there _ _ _ 5; (repeat (first | (with_reducible assumption) | (with_reducible refine there_drew ?_) | (with_reducible refine World.there_alloc ?_ _) | (with_reducible refine there_setCell ?_ _ _) | (with_reducible refine there_below ?_ (by assumption)) | exact there_new rfl rfl)))); (case shi => (rw [siz23]; rfl)))
  have hne : wu.heap.size ≠ w.heap.size := by omega
  refine ⟨rfl, ⟨cell_setCells _ hne v0, cell_setCells _ hne v1, cell_setCells _ hne v2, cell_setCells _ hne v3, cell_setCells _ hne v4⟩, ?_⟩
  refine lead_one rfl ?_ ⟨cell_setCells _ hne v0, cell_setCells _ hne v1, cell_setCells _ hne v2, cell_setCells _ hne v3, cell_setCells _ hne v4⟩
  go_wp2
  refine ⟨rfl, ⟨cell_setCells _ hne v0, cell_setCells _ hne v1, cell_setCells _ hne v2, cell_setCells _ hne v3, cell_setCells _ hne v4⟩, ?_⟩
  refine lead_one rfl ?_ ⟨cell_setCells _ hne v0, cell_setCells _ hne v1, cell_setCells _ hne v2, cell_setCells _ hne v3, cell_setCells _ hne v4⟩
  go_wp2
  refine ⟨rfl, ⟨cell_setCells _ hne v0, cell_setCells _ hne v1, cell_setCells _ hne v2, cell_setCells _ hne v3, cell_setCells _ hne v4⟩, ?_⟩
  refine lead_nil ?_
  go_wp2
  refine bodyPost_ret (results23 rfl _ _ rfl ?_ rfl) rfl ⟨⟨_, _, rfl, ?_⟩, ?_, ?_⟩
  · exact hth5
  · refine bytes_setCells _ _ H5 (fun b' off' e => ?_)
    have := (F5 b' off' e).1
    omega
  · exact refAt_setCells _ _ (hRw.below hB5) (by omega)
  · exact Chg.setCells _ _ (hCW.then hB5) (Nat.le_refl _)
end Go.Proofs.Ytdlghiekcgplaaa
