/- The walk of the law CellBack. -/
import Derived.Test.YtdlghiekcgplaaaCellQ
import Derived.Test.YtdlghiekcgplaaaHeadK
namespace Go.Proofs.Ytdlghiekcgplaaa
set_option linter.unusedVariables false
set_option linter.unusedSimpArgs false
open Go.RowKit
set_option maxRecDepth 100000
set_option maxHeartbeats 4000000
theorem xor_xor8 {a b : Int} (ha : isB a) (hb : isB b) : bits .xor .u8 (bits .xor .u8 a b) b = a := by
  rw [xor_bv (xor_isB ha hb) hb, bv_xor ha hb, BitVec.xor_assoc, BitVec.xor_self, BitVec.xor_zero, bv_nat ha]
theorem flip_flip {zs : List Int} (hb : allB zs) (k : Nat) (hk : k / 8 < zs.length) : flipZ (flipZ zs k) k = zs := by
  have hz : isB (zs[k / 8]?.getD 0) := by rw [List.getElem?_eq_getElem hk]; exact hb _ (List.getElem_mem hk)
  unfold flipZ
  rw [List.getElem?_set_self hk, List.set_set]
  show zs.set (k / 8) (bits .xor .u8 (bits .xor .u8 _ _) _) = zs
  rw [xor_xor8 hz (pow_isB _), List.getElem?_eq_getElem hk]
  exact List.set_getElem_self hk
theorem takes_right {c : Bool} {zs : List Int} (h : zs.length = 4) (hb : allB zs) : takes c (zs ++ [e8 zs]) = zs ∧ fixes c (zs ++ [e8 zs]) = false ∧ drops c (zs ++ [e8 zs]) = false ∧ (synd (zs ++ [e8 zs]) != 0) = false := by
  have hs := synd_right h hb
  refine ⟨?_, ?_, ?_, ?_⟩
  · unfold takes; rw [if_pos hs, List.take_append_of_le_length (by omega), List.take_of_length_le (by omega)]
  · unfold fixes; rw [hs]; rfl
  · unfold drops; rw [hs]; rfl
  · rw [hs]; rfl
theorem takes_one {zs : List Int} (h : zs.length = 4) (hb : allB zs) {x : Nat} (hx : x < 40) : takes false (flipZ (zs ++ [e8 zs]) x) = zs ∧ fixes false (flipZ (zs ++ [e8 zs]) x) = true ∧ drops false (flipZ (zs ++ [e8 zs]) x) = false ∧ (synd (flipZ (zs ++ [e8 zs]) x) != 0) = true := by
  have hs := synd_one h hb x
  have ht := tab_pos hx
  have hbt := bitOf_tab hx
  have hf : fixes false (flipZ (zs ++ [e8 zs]) x) = true := by
    unfold fixes; rw [hs, hbt]; simp [ht]
  refine ⟨?_, hf, ?_, ?_⟩
  · unfold takes
    rw [if_neg (by rw [hs]; exact ht), if_pos hf, hs, hbt]
    show (flipZ (flipZ _ x) x).take 4 = zs
    rw [flip_flip (right_B hb) x (by simp; omega), List.take_append_of_le_length (by omega), List.take_of_length_le (by omega)]
  · unfold drops; rw [hs, hbt]; simp
  · rw [hs]; simp [ht]
theorem flip_take {zs : List Int} {x : Nat} (hx : x < 40) : (flipZ zs x).take 5 = flipZ (zs.take 5) x := by
  unfold flipZ
  rw [List.take_set, List.getElem?_take_of_lt (by omega)]
theorem flip_drop {zs : List Int} {x : Nat} (hx : x < 40) : (flipZ zs x).drop 5 = zs.drop 5 := by
  unfold flipZ
  rw [List.drop_set_of_lt (by omega)]
theorem bytes4_BB (n : Int) : allB (bytes4 n) := by
  unfold bytes4
  intro q hq; simp only [List.mem_cons, List.not_mem_nil, or_false] at hq
  rcases hq with h | h | h | h <;> (rw [h]; constructor <;> omega)
theorem u_bytes4 {nni : Bool} {g p c t l n : Int} (hr : rightH nni g p c t l = true) (hw : wordH nni g p c t l = n) :
    uG nni (bytes4 n) = g ∧ uP nni (bytes4 n) = p ∧ uC (bytes4 n) = c ∧ uT (bytes4 n) = t ∧ uL (bytes4 n) = l := by
  obtain ⟨a1, a2, a3, a4, a5⟩ := back_of hr
  have bd := wordH_bd hr
  rw [hw] at a1 a2 a3 a4 a5 bd
  have hu : uW (bytes4 n) = n := by unfold uW at4 bytes4; exact word4_bytes bd.1 bd.2
  have hl : (bytes4 n).length = 4 := rfl
  unfold uG uP uC uT uL
  rw [if_pos hl, if_pos hl, if_pos hl, if_pos hl, if_pos hl, hu]
  exact ⟨a1, a2, a3, a4, a5⟩
theorem parse_built (Y : Array Value) (g p c t l n : Int) (nni : Bool) (ps : List Int) (pr : Nat) (a : Option Addr) (cap : Nat) (w : World) (hY : Hid (Y = (cellV g p c t l ps).toArray)) (hr : rightH nni g p c t l = true) (hw : wordH nni g p c t l = n)
    (h : RecAt w pr 0 0 false) (hz : BytesAt w a 53 (cellZ n ps)) (hc1 : 53 ≤ cap) (hc2 : cap ≤ 9223372036854775807) (hn : ∀ b off, a = some ⟨b, off, none⟩ → b ≠ pr) :
    Calls Try.prog 34 #[.slice a 53 cap, .pointer (some ⟨pr, 0, none⟩), .bool nni] w fun e w' => e = .returned (.tuple #[.agg Y, .int .i64 0]) ∧ RecAt w' pr 0 0 false ∧ Chg pr w w' := by
  obtain ⟨t1, t2, t3, t4⟩ := takes_right (c := false) (zs := bytes4 n) rfl (bytes4_BB n)
  have e5 : (cellZ n ps).take 5 = bytes4 n ++ [e8 (bytes4 n)] := rfl
  have d5 : (cellZ n ps).drop 5 = ps := rfl
  have hp := cellParse_take pr 0 0 false a cap (cellZ n ps) nni w h (by omega) (by omega) (by omega) (by omega) hz hc1 hc2 hn (by rw [e5]; exact t3)
  obtain ⟨u1, u2, u3, u4, u5⟩ := u_bytes4 hr hw
  rw [e5, d5, t1, t2, t3, t4, u1, u2, u3, u4, u5, ← hY.out] at hp
  exact hp
theorem parse_fixed (Y : Array Value) (g p c t l n : Int) (nni : Bool) (ps : List Int) (x : Nat) (pr : Nat) (a : Option Addr) (cap : Nat) (w : World) (hx : x < 40) (hY : Hid (Y = (cellV g p c t l ps).toArray)) (hr : rightH nni g p c t l = true) (hw : wordH nni g p c t l = n)
    (h : RecAt w pr 0 0 false) (hz : BytesAt w a 53 (flipZ (cellZ n ps) x)) (hc1 : 53 ≤ cap) (hc2 : cap ≤ 9223372036854775807) (hn : ∀ b off, a = some ⟨b, off, none⟩ → b ≠ pr) :
    Calls Try.prog 34 #[.slice a 53 cap, .pointer (some ⟨pr, 0, none⟩), .bool nni] w fun e w' => e = .returned (.tuple #[.agg Y, .int .i64 0]) ∧ RecAt w' pr 1 0 true ∧ Chg pr w w' := by
  obtain ⟨t1, t2, t3, t4⟩ := takes_one (zs := bytes4 n) rfl (bytes4_BB n) hx
  have e5 : (flipZ (cellZ n ps) x).take 5 = flipZ (bytes4 n ++ [e8 (bytes4 n)]) x := flip_take hx
  have d5 : (flipZ (cellZ n ps) x).drop 5 = ps := flip_drop hx
  have hp := cellParse_take pr 0 0 false a cap (flipZ (cellZ n ps) x) nni w h (by omega) (by omega) (by omega) (by omega) hz hc1 hc2 hn (by rw [e5]; exact t3)
  obtain ⟨u1, u2, u3, u4, u5⟩ := u_bytes4 hr hw
  rw [e5, d5, t1, t2, t3, t4, u1, u2, u3, u4, u5, ← hY.out] at hp
  exact hp
theorem wf_right {nni : Bool} {g p c t l : Int} (h : rightH nni g p c t l = true) : (Lit.int .i64 g).wf = true ∧ (Lit.int .i64 p).wf = true ∧ (Lit.int .i64 c).wf = true ∧ (Lit.int .i64 t).wf = true ∧ (Lit.int .i64 l).wf = true := by
  unfold rightH at h
  simp only [decide_eq_true_eq] at h
  have k : ∀ x : Int, 0 ≤ x → x < 65536 → (Lit.int .i64 x).wf = true := fun x h0 h1 => by
    have a : IntKind.i64.min = -9223372036854775808 := rfl
    have b : IntKind.i64.max = 9223372036854775807 := rfl
    simp [Lit.wf]; omega
  cases nni <;> simp at h <;> exact ⟨k _ (by omega) (by omega), k _ (by omega) (by omega), k _ (by omega) (by omega), k _ (by omega) (by omega), k _ (by omega) (by omega)⟩
theorem range_chg {w w' : World} {b o p : Nat} {cs : List Value} (h : w.rangeAt b o cs) (hc : Chg p w w') (hn : b ≠ p) : w'.rangeAt b o cs := fun j v hv => hc.cell hn (h j v hv)
theorem careful_rec (b : Nat) {r d : Int} {c : Bool} (w : World) (h : RecAt w b r d c) :
    Calls Try.prog 36 #[.pointer (some ⟨b, 0, none⟩)] w fun e w' => e = .returned (.bool c) ∧ w = w' := careful_any b r d c w h
theorem lawBack_no (g p c t l : Int) (ps : List Int) (nni : Bool) (X : Array Value) (bit : Int) (w : World) (hX : Hid (X = (u8s ps).toArray)) (hlp : Hid (ps.length = 48)) (hbp : Hid (allB ps)) (hr : rightH nni g p c t l = false) :
    Calls Try.prog 14 #[.agg #[.int .i64 g, .int .i64 p, .int .i64 c, .int .i64 t, .int .i64 l], .agg X, .bool nni, .int .u8 bit] w fun e w' => e = .returned (.bool true) ∧ Below w.heap.size w w' := by
  obtain ⟨Y, hY⟩ : ∃ Y, Hid (Y = (cellV g p c t l ps).toArray) := ⟨_, rfl⟩
  have hsp : X.size = 48 := sizeP hX hlp.out
  have hsy : Y.size = 53 := sizeX hY hlp.out
  go_enter Try.func14, Try.ntmps14
  go_wp2_with (first | (go_at_call 26; refine (awake04 _).mono ?_; rintro e wa ⟨rfl, hb_wa⟩; have hs_wa := hb_wa.size; (try simp at hs_wa); have h1_wa : w.heap.size < wa.heap.size := (by omega); have P_a : BytesAt wa (some ⟨w.heap.size + 1, 0, none⟩) 48 ps := ((bytes_block hX (by simp) hlp.out hbp.out).below hb_wa); have ka_0 : wa.cell? ⟨w.heap.size, 0, none⟩ = some (.int .i64 g) := (by (repeat (first | (with_reducible assumption) | ((with_reducible refine cell_top ?_ rfl); first | (with_reducible rfl) | (simp; done)) | (with_reducible apply cell_drew) | (with_reducible apply cell_drewN) | ((with_reducible apply cell_keep); focus (with_reducible assumption)) | (with_reducible refine cell_keep (Aft.below _) ?_) | (with_reducible apply cell_set) | ((with_reducible apply cell_off); focus (decide)) | ((with_reducible apply cell_beside); focus (first | omega | (simp; done) | (simp; omega))) | ((with_reducible apply cell_under); focus (first | omega | (simp; done) | (simp; omega)))))); have ka_1 : wa.cell? ⟨w.heap.size, 1, none⟩ = some (.int .i64 p) := (by (repeat (first | (with_reducible assumption) | ((with_reducible refine cell_top ?_ rfl); first | (with_reducible rfl) | (simp; done)) | (with_reducible apply cell_drew) | (with_reducible apply cell_drewN) | ((with_reducible apply cell_keep); focus (with_reducible assumption)) | (with_reducible refine cell_keep (Aft.below _) ?_) | (with_reducible apply cell_set) | ((with_reducible apply cell_off); focus (decide)) | ((with_reducible apply cell_beside); focus (first | omega | (simp; done) | (simp; omega))) | ((with_reducible apply cell_under); focus (first | omega | (simp; done) | (simp; omega)))))); have ka_2 : wa.cell? ⟨w.heap.size, 2, none⟩ = some (.int .i64 c) := (by (repeat (first | (with_reducible assumption) | ((with_reducible refine cell_top ?_ rfl); first | (with_reducible rfl) | (simp; done)) | (with_reducible apply cell_drew) | (with_reducible apply cell_drewN) | ((with_reducible apply cell_keep); focus (with_reducible assumption)) | (with_reducible refine cell_keep (Aft.below _) ?_) | (with_reducible apply cell_set) | ((with_reducible apply cell_off); focus (decide)) | ((with_reducible apply cell_beside); focus (first | omega | (simp; done) | (simp; omega))) | ((with_reducible apply cell_under); focus (first | omega | (simp; done) | (simp; omega)))))); have ka_3 : wa.cell? ⟨w.heap.size, 3, none⟩ = some (.int .i64 t) := (by (repeat (first | (with_reducible assumption) | ((with_reducible refine cell_top ?_ rfl); first | (with_reducible rfl) | (simp; done)) | (with_reducible apply cell_drew) | (with_reducible apply cell_drewN) | ((with_reducible apply cell_keep); focus (with_reducible assumption)) | (with_reducible refine cell_keep (Aft.below _) ?_) | (with_reducible apply cell_set) | ((with_reducible apply cell_off); focus (decide)) | ((with_reducible apply cell_beside); focus (first | omega | (simp; done) | (simp; omega))) | ((with_reducible apply cell_under); focus (first | omega | (simp; done) | (simp; omega)))))); have ka_4 : wa.cell? ⟨w.heap.size, 4, none⟩ = some (.int .i64 l) := (by (repeat (first | (with_reducible assumption) | ((with_reducible refine cell_top ?_ rfl); first | (with_reducible rfl) | (simp; done)) | (with_reducible apply cell_drew) | (with_reducible apply cell_drewN) | ((with_reducible apply cell_keep); focus (with_reducible assumption)) | (with_reducible refine cell_keep (Aft.below _) ?_) | (with_reducible apply cell_set) | ((with_reducible apply cell_off); focus (decide)) | ((with_reducible apply cell_beside); focus (first | omega | (simp; done) | (simp; omega))) | ((with_reducible apply cell_under); focus (first | omega | (simp; done) | (simp; omega))))))) | ((with_reducible refine wpList_load48 X ?_ ?_); (focus (exact ⟨_, _, rfl, hsp, range_of P_a hX⟩))) | ((with_reducible refine wpList_build46 Y g p c t l ps hY ?_ ?_); (focus (exact ⟨rfl, by rw [← hX.out]; rfl, hlp.out⟩))) | ((with_reducible refine wpList_fill46 Y ?_ ?_); (focus (exact ⟨rfl, rfl, hsy, oneX hY, rfl⟩)); intro W1 hs_W1 hb_W1 Y_1) | ((with_reducible refine wpList_load46 Y ?_ ?_); (focus (exact ⟨_, rfl, hsy, Y_1⟩))) | (go_at_call 27; (with_reducible refine (buildX_no Y g p c t l nni ps _ hY hr hlp.out).mono ?_); rintro e wb ⟨rfl, hb_wb⟩))
  go_ret
  exact ⟨rfl, by (repeat' (first | (with_reducible exact Below.refl _ _) | (with_reducible assumption) | (with_reducible refine below_drewN ?_ _) | (with_reducible refine Below.drew ?_) | ((with_reducible refine Below.alloc ?_ ?_ _); (rotate_left; focus (first | omega | (simp; done) | (simp; omega)))) | ((with_reducible refine Below.setCell ?_ ?_ _); (rotate_left; focus (first | omega | (simp; done) | (simp; omega)))) | (with_reducible refine Below.grown ?_ (by assumption) (by first | omega | (simp; omega)) (by simp [Value.ownBlock]; try omega)) | (with_reducible refine below_then ?_ (Aft.below _)) | (with_reducible apply below_then; rotate_left; assumption)))⟩
theorem lawBack_yes (g p c t l n : Int) (ps : List Int) (nni : Bool) (X : Array Value) (bit x : Nat) (w : World) (hX : Hid (X = (u8s ps).toArray)) (hlp : Hid (ps.length = 48)) (hbp : Hid (allB ps)) (hr : rightH nni g p c t l = true) (hn : Hid (wordH nni g p c t l = n)) (hbit : bit < 256) (hx : (bit : Int) % 40 = (x : Int)) (hx40 : x < 40) :
    Calls Try.prog 14 #[.agg #[.int .i64 g, .int .i64 p, .int .i64 c, .int .i64 t, .int .i64 l], .agg X, .bool nni, .int .u8 (bit : Int)] w fun e w' => e = .returned (.bool true) ∧ Below w.heap.size w w' := by
  obtain ⟨Y, hY⟩ : ∃ Y, Hid (Y = (cellV g p c t l ps).toArray) := ⟨_, rfl⟩
  have hsp : X.size = 48 := sizeP hX hlp.out
  have hsy : Y.size = 53 := sizeX hY hlp.out
  have heq : ∀ w, (binOp .eql 46 (.agg Y) (.agg Y)).run Try.prog w = .ok (.bool true) w := by
    obtain ⟨f0, f1, f2, f3, f4⟩ := wf_right hr
    exact fun w => eq46_self hY hlp.out hbp.out f0 f1 f2 f3 f4 w
  go_enter Try.func14, Try.ntmps14
  go_wp2_with (first | (go_at_call 26; refine (awake04 _).mono ?_; rintro e wa ⟨rfl, hb_wa⟩; have hs_wa := hb_wa.size; (try simp at hs_wa); have h1_wa : w.heap.size < wa.heap.size := (by omega); have P_a : BytesAt wa (some ⟨w.heap.size + 1, 0, none⟩) 48 ps := ((bytes_block hX (by simp) hlp.out hbp.out).below hb_wa); have ka_0 : wa.cell? ⟨w.heap.size, 0, none⟩ = some (.int .i64 g) := (by (repeat (first | (with_reducible assumption) | ((with_reducible refine cell_top ?_ rfl); first | (with_reducible rfl) | (simp; done)) | (with_reducible apply cell_drew) | (with_reducible apply cell_drewN) | ((with_reducible apply cell_keep); focus (with_reducible assumption)) | (with_reducible refine cell_keep (Aft.below _) ?_) | (with_reducible apply cell_set) | ((with_reducible apply cell_off); focus (decide)) | ((with_reducible apply cell_beside); focus (first | omega | (simp; done) | (simp; omega))) | ((with_reducible apply cell_under); focus (first | omega | (simp; done) | (simp; omega)))))); have ka_1 : wa.cell? ⟨w.heap.size, 1, none⟩ = some (.int .i64 p) := (by (repeat (first | (with_reducible assumption) | ((with_reducible refine cell_top ?_ rfl); first | (with_reducible rfl) | (simp; done)) | (with_reducible apply cell_drew) | (with_reducible apply cell_drewN) | ((with_reducible apply cell_keep); focus (with_reducible assumption)) | (with_reducible refine cell_keep (Aft.below _) ?_) | (with_reducible apply cell_set) | ((with_reducible apply cell_off); focus (decide)) | ((with_reducible apply cell_beside); focus (first | omega | (simp; done) | (simp; omega))) | ((with_reducible apply cell_under); focus (first | omega | (simp; done) | (simp; omega)))))); have ka_2 : wa.cell? ⟨w.heap.size, 2, none⟩ = some (.int .i64 c) := (by (repeat (first | (with_reducible assumption) | ((with_reducible refine cell_top ?_ rfl); first | (with_reducible rfl) | (simp; done)) | (with_reducible apply cell_drew) | (with_reducible apply cell_drewN) | ((with_reducible apply cell_keep); focus (with_reducible assumption)) | (with_reducible refine cell_keep (Aft.below _) ?_) | (with_reducible apply cell_set) | ((with_reducible apply cell_off); focus (decide)) | ((with_reducible apply cell_beside); focus (first | omega | (simp; done) | (simp; omega))) | ((with_reducible apply cell_under); focus (first | omega | (simp; done) | (simp; omega)))))); have ka_3 : wa.cell? ⟨w.heap.size, 3, none⟩ = some (.int .i64 t) := (by (repeat (first | (with_reducible assumption) | ((with_reducible refine cell_top ?_ rfl); first | (with_reducible rfl) | (simp; done)) | (with_reducible apply cell_drew) | (with_reducible apply cell_drewN) | ((with_reducible apply cell_keep); focus (with_reducible assumption)) | (with_reducible refine cell_keep (Aft.below _) ?_) | (with_reducible apply cell_set) | ((with_reducible apply cell_off); focus (decide)) | ((with_reducible apply cell_beside); focus (first | omega | (simp; done) | (simp; omega))) | ((with_reducible apply cell_under); focus (first | omega | (simp; done) | (simp; omega)))))); have ka_4 : wa.cell? ⟨w.heap.size, 4, none⟩ = some (.int .i64 l) := (by (repeat (first | (with_reducible assumption) | ((with_reducible refine cell_top ?_ rfl); first | (with_reducible rfl) | (simp; done)) | (with_reducible apply cell_drew) | (with_reducible apply cell_drewN) | ((with_reducible apply cell_keep); focus (with_reducible assumption)) | (with_reducible refine cell_keep (Aft.below _) ?_) | (with_reducible apply cell_set) | ((with_reducible apply cell_off); focus (decide)) | ((with_reducible apply cell_beside); focus (first | omega | (simp; done) | (simp; omega))) | ((with_reducible apply cell_under); focus (first | omega | (simp; done) | (simp; omega))))))) | ((with_reducible refine wpList_load48 X ?_ ?_); (focus (exact ⟨_, _, rfl, hsp, range_of P_a hX⟩))) | ((with_reducible refine wpList_build46 Y g p c t l ps hY ?_ ?_); (focus (exact ⟨rfl, by rw [← hX.out]; rfl, hlp.out⟩))) | ((with_reducible refine wpList_fill46 (w := wa) Y ?_ ?_); (focus (exact ⟨rfl, rfl, hsy, oneX hY, rfl⟩)); intro W1 hs_W1 hb_W1 Y_1) | ((with_reducible refine wpList_load46 Y ?_ ?_); (focus (exact ⟨_, rfl, hsy, Y_1⟩))) | (go_at_call 27; (with_reducible refine (buildX_yes Y g p c t l n nni ps _ hY hr hn.out hlp.out hbp.out).mono ?_); rintro e wb ⟨v1, rfl, own1, hb_wb⟩; obtain ⟨a1, c1, rfl, hac1, hcm1, HB1, HF1, HN1⟩ := own1.at (by omega); obtain ⟨b1, off1, rfl, hbw1, _⟩ := HB1.cells (by omega); obtain ⟨hb10, rfl, hb11, _⟩ := HF1 b1 off1 rfl; clear HF1 HN1 own1; have Y_b := range_below Y_1 hb_wb) | (go_at_call 34; (with_reducible refine (parse_built Y g p c t l n nni ps wb.heap.size _ c1 _ hY hr hn.out recAt_new (HB1.below ((Below.refl _ _).alloc (Nat.le_refl _) _)) hac1 hcm1 ?nq).mono ?_); (case nq => (intro b' off' e; injection e with e; injection e with e1 e2; omega)); rintro e wp ⟨rfl, R_p, C_p⟩; have Y_p := range_chg (range_below Y_b ((Below.refl _ _).alloc (Nat.le_refl _) _)) C_p (by omega); have HB2 := (HB1.below ((Below.refl _ _).alloc (Nat.le_refl _) _)).chgU C_p (fun b' off' e => by injection e with e; injection e with e1 e2; omega); have hs_wp := C_p.size; (try simp at hs_wp)) | ((with_reducible refine wpList_fill46 (w := wp) Y ?_ ?_); (focus (exact ⟨rfl, rfl, hsy, oneX hY, rfl⟩)); intro W2 hs_W2 hb_W2 V_2; have Y_2 := range_below Y_p hb_W2; have R_2 := R_p.below hb_W2; have HB3 := HB2.below hb_W2) | (go_at_call 33; (with_reducible refine (flip_any HB3 (fun h => nomatch h) x (by omega) _ ?hfi).mono ?_); (case hfi => rfl); rintro e wf ⟨g3, c3, rfl, hg3, hcl3, hcm3, HF, hb_wf⟩; have Y_f := range_below Y_2 hb_wf; have V_f := range_below V_2 hb_wf; have R_f := R_2.below hb_wf; have hs_wf := hb_wf.size) | (go_at_call 34; (with_reducible refine (parse_fixed Y g p c t l n nni ps x wb.heap.size _ c3 _ hx40 hY hr hn.out R_f HF hcl3 hcm3 ?nq2).mono ?_); (case nq2 => (intro b' off' e; injection e with e; injection e with e1 e2; omega)); rintro e wq ⟨rfl, R_q, C_q⟩; have hs_wq := C_q.size; have Y_q := range_chg Y_f C_q (by omega); have V_q := range_chg V_f C_q (by omega)) | ((with_reducible refine wpList_fill46 (w := wq) Y ?_ ?_); (focus (exact ⟨rfl, rfl, hsy, oneX hY, rfl⟩)); intro W4 hs_W4 hb_W4 U_4; have Y_4 := range_below Y_q hb_W4; have V_4 := range_below V_q hb_W4; have R_4 := R_q.below hb_W4) | ((with_reducible refine wpList_load46G Y ?_ ?_ ?_); (focus (first | rfl | (simp [Region.wanted, yielded, Act.put]; done))); (focus (exact ⟨_, rfl, hsy, (by first | exact U_4 | exact V_4 | exact Y_4)⟩))) | (go_at_call 36; (with_reducible refine (careful_rec wb.heap.size _ R_4).mono ?_); rintro e wz ⟨rfl, rfl⟩))
  go_ret
  have B1 : Below w.heap.size w wb := by
    have h1 : Below w.heap.size w wa := by (repeat' (first | (with_reducible exact Below.refl _ _) | (with_reducible assumption) | (with_reducible refine below_drewN ?_ _) | (with_reducible refine Below.drew ?_) | ((with_reducible refine Below.alloc ?_ ?_ _); (rotate_left; focus (first | omega | (simp; done) | (simp; omega)))) | ((with_reducible refine Below.setCell ?_ ?_ _); (rotate_left; focus (first | omega | (simp; done) | (simp; omega)))) | (with_reducible refine Below.grown ?_ (by assumption) (by first | omega | (simp; omega)) (by simp [Value.ownBlock]; try omega)) | (with_reducible refine below_then ?_ (Aft.below _)) | (with_reducible apply below_then; rotate_left; assumption)))
    exact (h1.trans (hb_W1.mono (by omega))).trans (hb_wb.mono (by omega))
  have B2 : Below w.heap.size w wp := chg_back C_p (B1.alloc (by omega) _) (by omega) (by simp; omega)
  have B3 : Below w.heap.size w wf := (B2.trans (hb_W2.mono (by omega))).trans (hb_wf.mono (by omega))
  have B4 : Below w.heap.size w wq := chg_back C_q B3 (by omega) (by omega)
  exact ⟨rfl, B4.trans (hb_W4.mono (by omega))⟩
namespace cellBack
theorem cellBack_any (g0 p0 c0 t0 l0 : Int) (ps1 : List Int) (b2 : Bool) (n3 : Int) (w : World) (_ : -9223372036854775808 ≤ g0) (_ : g0 ≤ 9223372036854775807) (_ : -9223372036854775808 ≤ p0) (_ : p0 ≤ 9223372036854775807) (_ : -9223372036854775808 ≤ c0) (_ : c0 ≤ 9223372036854775807) (_ : -9223372036854775808 ≤ t0) (_ : t0 ≤ 9223372036854775807) (_ : -9223372036854775808 ≤ l0) (_ : l0 ≤ 9223372036854775807) (hl1 : ps1.length = 48) (hb1 : allB ps1) (a0 : 0 ≤ n3) (a1 : n3 < 256) :
    Calls Try.prog 14 #[.agg #[.int .i64 g0, .int .i64 p0, .int .i64 c0, .int .i64 t0, .int .i64 l0], .agg (u8s ps1).toArray, .bool b2, .int .u8 n3] w fun e w' => e = .returned (.bool true) ∧ Below w.heap.size w w' := by
  cases h : rightH b2 g0 p0 c0 t0 l0 with
  | false => exact lawBack_no g0 p0 c0 t0 l0 ps1 b2 _ n3 w rfl hl1 hb1 h
  | true =>
    obtain ⟨m, rfl⟩ := Int.eq_ofNat_of_zero_le a0
    exact lawBack_yes g0 p0 c0 t0 l0 _ ps1 b2 _ m (m % 40) w rfl hl1 hb1 h rfl (by omega) (by omega) (by omega)
end cellBack
end Go.Proofs.Ytdlghiekcgplaaa
