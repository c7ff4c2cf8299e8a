/- The walk of the law CostSums. -/
import Derived.Test.YtpkfaempgibfaaaCostL5
namespace Go.Proofs.Ytpkfaempgibfaaa
set_option linter.unusedVariables false
set_option linter.unusedSimpArgs false
open Go.RowKit
set_option maxRecDepth 100000
set_option maxHeartbeats 4000000
theorem sumI_append (xs ys : List C6) : sumI (xs ++ ys) = sumI xs + sumI ys := by unfold sumI; rw [List.map_append, List.sum_append]
theorem sumI_reverse (xs : List C6) : sumI xs.reverse = sumI xs := by
  induction xs with
  | nil => rfl
  | cons x xs ih => rw [List.reverse_cons, sumI_append, ih]; unfold sumI; simp; omega
theorem crAt_base {w1 w2 w3 w4 : World} {a : Option Addr} {n : Nat} {cs : List C6} (h : CrAt w1 a n cs) (h1 : Below w1.heap.size w1 w2) (h2 : Below w2.heap.size w2 w3) (h3 : Below w2.heap.size w3 w4) : CrAt w4 a n cs :=
  (h.below h1).below (h2.trans h3)
theorem costSums_go (a b : Option Addr) (la ca lb cb : Nat) (xs ys : List C6) (w : World) (hA : CrAt w a la xs) (hB : CrAt w b lb ys) (na : a = none → ca = 0) (nb : b = none → cb = 0) (h1 : la ≤ 100) (h2 : lb ≤ 100) :
    Calls Try.prog 14 #[.slice a la ca, .slice b lb cb] w fun e w' => e = .returned (.bool true) ∧ Below w.heap.size w w' := by
  have hlx := hA.length
  have hly := hB.length
  have d1 : decide ((100 : Int) < (la : Int)) = false := decide_eq_false (by omega)
  have d2 : decide ((100 : Int) < (lb : Int)) = false := decide_eq_false (by omega)
  obtain ⟨S, hS⟩ : ∃ S, S = sumI xs := ⟨_, rfl⟩
  obtain ⟨T, hT⟩ : ∃ T, T = sumI ys := ⟨_, rfl⟩
  have bS := sumI_bd xs
  have bT := sumI_bd ys
  rw [← hS] at bS
  rw [← hT] at bT
  have bS : 0 ≤ S ∧ S ≤ 104857600 := by omega
  have bT : 0 ≤ T ∧ T ≤ 104857600 := by omega
  have s1 : sumZ xs = S := by rw [sumZ_eq _ (by omega), hS]
  have s2 : sumZ xs.reverse = S := by rw [sumZ_eq _ (by rw [List.length_reverse]; omega), sumI_reverse, hS]
  have s3 : sumZ ys = T := by rw [sumZ_eq _ (by omega), hT]
  have s4 : sumZ ([] ++ xs ++ ys) = S + T := by rw [sumZ_eq _ (by simp; omega), List.nil_append, sumI_append, hS, hT]
  have s5 : sumZ [] = 0 := rfl
  have hpre : ∀ k x, xs[k]? = some x → sumI (xs.take (k + 1)) = sumI (xs.take k) + x.need := fun k x hx => by
    rw [List.take_add_one, hx, sumI_append]; unfold sumI; simp
  have hpb : ∀ k, 0 ≤ sumI (xs.take k) ∧ sumI (xs.take k) ≤ 1048576 * (la : Int) := fun k => by
    have := sumI_bd (xs.take k)
    rw [List.length_take] at this
    omega
  have H1 := Lib.hid s1; have H2 := Lib.hid s2; have H3 := Lib.hid s3; have H4 := Lib.hid s4; have H5 := Lib.hid s5
  have HP := Lib.hid hpre; have HB := Lib.hid hpb; have HS := Lib.hid hS; have HLX := Lib.hid hlx; have HLY := Lib.hid hly
  clear s1 s2 s3 s4 s5 hpre hpb hS hT hlx hly
  go_enter Try.func14, Try.ntmps14
  go_wp2_with (go_at_call 26; refine (awake17 _).mono ?_; rintro e wa ⟨rfl, hb_wa⟩; have A_a := hA.below hb_wa; have B_a := hB.below hb_wa)
  clear hA hB
  go_loopw [5, 6, 24] (fun s5 s6 s24 wr => ∃ k : Nat, k ≤ la ∧ s24 = .int .i64 k ∧ s5 = .int .i64 (sumI (xs.take k)) ∧ Below wa.heap.size wa wr) (fun s5 s6 s24 wr => la - (intOf s24).toNat)
  case atStart => exact ⟨0, by omega, rfl, rfl, Below.refl _ _⟩
  case round =>
    obtain ⟨k, hk, rfl, rfl, hb⟩ := hrel
    have bk := HB.out k
    obtain ⟨P, hP⟩ : ∃ P, P = sumI (xs.take k) := ⟨_, rfl⟩
    rw [← hP] at bk ⊢
    by_cases hlt : k < la
    · obtain ⟨g, off, rfl, hg, hc⟩ := A_a.cells (by omega)
      obtain ⟨x, hx⟩ : ∃ x, xs[k]? = some x := ⟨_, List.getElem?_eq_getElem (by rw [HLX.out]; exact hlt)⟩
      obtain ⟨c0, c1, c2, c3, c4, c5⟩ := hc k x hx
      have e0 := (hb.cell (p := ⟨g, off + k * 6, none⟩) hg).trans c0
      have e1 := (hb.cell (p := ⟨g, off + k * 6 + 1, none⟩) hg).trans c1
      have e2 := (hb.cell (p := ⟨g, off + k * 6 + 2, none⟩) hg).trans c2
      have e3 := (hb.cell (p := ⟨g, off + k * 6 + 3, none⟩) hg).trans c3
      have e4 := (hb.cell (p := ⟨g, off + k * 6 + 4, none⟩) hg).trans c4
      have e5 := (hb.cell (p := ⟨g, off + k * 6 + 5, none⟩) hg).trans c5
      have hp1 := HP.out k x hx
      rw [← hP] at hp1
      have bx := need_bd x
      have HP1 := Lib.hid hp1
      have hnx : needZ x.k x.p x.e x.wh x.b x.l = x.need := rfl
      have HNX := Lib.hid hnx
      obtain ⟨N, hN⟩ : ∃ N, N = x.need := ⟨_, rfl⟩
      rw [← hN] at bx HP1 HNX
      clear c0 c1 c2 c3 c4 c5 hc hx hp1 hnx hN hP
      go_wp2_with (go_at_call 28; (with_reducible refine (refNeed_any x.k x.p x.e x.wh x.b x.l _).mono ?_); rw [HNX.out]; rintro e wn ⟨rfl, hb_wn⟩)
      go_roundw
      case rel => exact ⟨k + 1, by omega, by go_num, by rw [HP1.out], hb.trans (hb_wn.mono hb.size)⟩
      case measure => simp [intOf]; omega
    · obtain rfl : la = k := by omega
      have hPS : P = S := by rw [hP, HS.out, List.take_of_length_le (by rw [HLX.out]; exact Nat.le_refl _)]
      subst hPS
      clear hP
      obtain ⟨wx, rfl⟩ : ∃ wx, wx = wr := ⟨_, rfl⟩
      have A_r := A_a.below hb
      have B_r := B_a.below hb
      have b0 : Below w.heap.size w wx := hb_wa.trans (hb.mono hb_wa.size)
      clear A_a B_a hb hb_wa
      go_wp2
      go_loopw [7, 8, 37] (fun s7 s8 s37 wr => ∃ k : Nat, k ≤ la ∧ s37 = .int .i64 k ∧ OwnC wr wx.heap.size s7 k (xs.take k).reverse ∧ Below wx.heap.size wx wr) (fun s7 s8 s37 wr => la - (intOf s37).toNat)
      case atStart => exact ⟨0, by omega, rfl, OwnC.nil _ _, Below.refl _ _⟩
      case round =>
        obtain ⟨k, hk, rfl, hO, hb⟩ := hrel
        obtain ⟨at', ct, rfl, hAt, hnt⟩ := hO.at (by omega)
        have hsz := hb.size
        by_cases hlt : k < la
        · obtain ⟨g, off, rfl, hg, hc⟩ := A_r.cells (by omega)
          obtain ⟨x, hx⟩ : ∃ x, xs[k]? = some x := ⟨_, List.getElem?_eq_getElem (by rw [HLX.out]; exact hlt)⟩
          obtain ⟨c0, c1, c2, c3, c4, c5⟩ := hc k x hx
          have e0 := (hb.cell (p := ⟨g, off + k * 6, none⟩) hg).trans c0
          have e1 := (hb.cell (p := ⟨g, off + k * 6 + 1, none⟩) hg).trans c1
          have e2 := (hb.cell (p := ⟨g, off + k * 6 + 2, none⟩) hg).trans c2
          have e3 := (hb.cell (p := ⟨g, off + k * 6 + 3, none⟩) hg).trans c3
          have e4 := (hb.cell (p := ⟨g, off + k * 6 + 4, none⟩) hg).trans c4
          have e5 := (hb.cell (p := ⟨g, off + k * 6 + 5, none⟩) hg).trans c5
          have hrv : [x] ++ (xs.take k).reverse = (xs.take (k + 1)).reverse := by
            rw [List.take_add_one, hx]; simp
          have HRV := Lib.hid hrv
          have hoL := OwnC.lit (w := wr) (base := wx.heap.size) x hsz
          have hA1 := hAt.below ((Below.refl wr.heap.size wr).alloc (Nat.le_refl _) (.cells #[.int .i64 x.k, .int .i64 x.p, .int .i64 x.e, .int .i64 x.wh, .int .i64 x.b, .int .i64 x.l] 35))
          have hB1 := hb.alloc hsz (.cells #[.int .i64 x.k, .int .i64 x.p, .int .i64 x.e, .int .i64 x.wh, .int .i64 x.b, .int .i64 x.l] 35)
          clear c0 c1 c2 c3 c4 c5 hc hx hrv
          go_wp2_with (at_builtin; refine wpList_append_crs rfl _ _ rfl (v := .slice (some ⟨wr.heap.size, 0, none⟩) 1 1) (n := 1) (xs := [x]) (ad := at') (m := k) (c := ct) (ys := (xs.take k).reverse) (base := wx.heap.size) rfl hoL rfl hA1 hnt ?hb ?hbase ?_; (case hb => omega); (case hbase => (simp; omega)); intro v' w' hO' hb')
          go_roundw
          case rel => exact ⟨k + 1, by omega, by go_num, by rw [← HRV.out, Nat.add_comm]; exact hO', hB1.trans hb'⟩
          case measure => simp [intOf]; omega
        · obtain rfl : la = k := by omega
          have hrv : (xs.take la).reverse = xs.reverse := by rw [List.take_of_length_le (by rw [HLX.out]; exact Nat.le_refl _)]
          rw [hrv] at hAt
          have A_v : CrAt wr a la xs := ⟨A_r.length, A_r.most, fun hp => by
            obtain ⟨g, off, e1, e2, e3⟩ := A_r.cells hp
            exact ⟨g, off, e1, Nat.lt_of_lt_of_le e2 hsz, fun i x hx => by
              obtain ⟨c0, c1, c2, c3, c4, c5⟩ := e3 i x hx
              exact ⟨(hb.cell (p := ⟨g, _, none⟩) e2).trans c0, (hb.cell (p := ⟨g, _, none⟩) e2).trans c1, (hb.cell (p := ⟨g, _, none⟩) e2).trans c2, (hb.cell (p := ⟨g, _, none⟩) e2).trans c3, (hb.cell (p := ⟨g, _, none⟩) e2).trans c4, (hb.cell (p := ⟨g, _, none⟩) e2).trans c5⟩⟩⟩
          have B_v : CrAt wr b lb ys := ⟨B_r.length, B_r.most, fun hp => by
            obtain ⟨g, off, e1, e2, e3⟩ := B_r.cells hp
            exact ⟨g, off, e1, Nat.lt_of_lt_of_le e2 hsz, fun i x hx => by
              obtain ⟨c0, c1, c2, c3, c4, c5⟩ := e3 i x hx
              exact ⟨(hb.cell (p := ⟨g, _, none⟩) e2).trans c0, (hb.cell (p := ⟨g, _, none⟩) e2).trans c1, (hb.cell (p := ⟨g, _, none⟩) e2).trans c2, (hb.cell (p := ⟨g, _, none⟩) e2).trans c3, (hb.cell (p := ⟨g, _, none⟩) e2).trans c4, (hb.cell (p := ⟨g, _, none⟩) e2).trans c5⟩⟩⟩
          clear A_r B_r hrv hO
          have nz : ∀ w, CrAt w none 0 [] := fun w => ⟨rfl, by omega, fun hp => absurd hp (by omega)⟩
          go_wp2_with (first | (go_at_call 34; (with_reducible refine (sum_any a la ca xs _ A_v).mono ?_); rw [H1.out]; rintro e w1 ⟨rfl, hb_w1⟩; have A_1 := A_v.below hb_w1; have B_1 := B_v.below hb_w1; have T_1 := hAt.below hb_w1) | (go_at_call 34; (with_reducible refine (sum_any at' la ct _ _ T_1).mono ?_); rw [H2.out]; rintro e w2 ⟨rfl, hb_w2⟩; have be := (Below.refl w2.heap.size w2).alloc (Nat.le_refl _) (.cells #[] 35); have A_2 := (A_1.below hb_w2).below be; have B_2 := (B_1.below hb_w2).below be; have O_2 := OwnC.empty (w := w2) (base := w2.heap.size) (Nat.le_refl _)) | (at_builtin; refine wpList_unguard ?hw (wpList_append_crs rfl _ _ rfl (v := .slice (some ⟨w2.heap.size, 0, none⟩) 0 0) (n := 0) (xs := []) (ad := a) (m := la) (c := ca) (ys := xs) (base := w2.heap.size) rfl O_2 rfl A_2 na ?hb ?hbase ?_); (case hw => (first | rfl | (simp [Region.wanted, yielded, Act.put]; done))); (case hb => omega); (case hbase => (simp; done)); intro v3 w3 O_3 hb_w3; have B_3 : CrAt w3 b lb ys := crAt_base B_1 hb_w2 be hb_w3; have hs3 := hb_w3.size; (try simp at hs3)) | (at_builtin; refine wpList_unguard ?hw (wpList_append_crs rfl _ _ rfl (v := v3) (n := 0 + la) (xs := [] ++ xs) (ad := b) (m := lb) (c := cb) (ys := ys) (base := w2.heap.size) rfl O_3 rfl B_3 nb ?hb ?hbase ?_); (case hw => (first | rfl | (simp [Region.wanted, yielded, Act.put]; done))); (case hb => omega); (case hbase => omega); intro v4 w4 O_4 hb_w4; rw [Nat.zero_add] at O_4; have B_4 : CrAt w4 b lb ys := crAt_base B_1 hb_w2 (be.trans hb_w3) hb_w4; obtain ⟨a4, c4, rfl, hA4, hn4⟩ := O_4.at (by omega)) | (go_at_call 34; (with_reducible refine (sum_any a4 (la + lb) c4 _ _ hA4).mono ?_); rw [H4.out]; rintro e w5 ⟨rfl, hb_w5⟩; have B_5 := B_4.below hb_w5) | (go_at_call 34; (with_reducible refine (sum_any b lb cb ys _ B_5).mono ?_); rw [H3.out]; rintro e w6 ⟨rfl, hb_w6⟩) | (go_at_call 34; (with_reducible refine (sum_any none 0 0 [] _ (nz _)).mono ?_); rw [H5.out]; rintro e w7 ⟨rfl, hb_w7⟩))
          go_ret
          have h2 : Below wx.heap.size wx w1 := hb.trans (hb_w1.mono hsz)
          have h3 := h2.trans (hb_w2.mono h2.size)
          have h4 := h3.trans (be.mono h3.size)
          have h5 := h4.trans (hb_w3.mono h3.size)
          have h6 := h5.trans (hb_w4.mono h3.size)
          have h7 := h6.trans (hb_w5.mono h6.size)
          have h8 := h7.trans (hb_w6.mono h7.size)
          have h9 := h8.trans (hb_w7.mono h8.size)
          exact ⟨ret_bool (by simp), b0.trans (h9.mono b0.size)⟩
theorem costSums_long (a b : Option Addr) (la ca lb cb : Nat) (w : World) (h1 : la ≤ 9223372036854775807) (h2 : lb ≤ 9223372036854775807) (h : 100 < la ∨ 100 < lb) :
    Calls Try.prog 14 #[.slice a la ca, .slice b lb cb] w fun e w' => e = .returned (.bool true) ∧ Below w.heap.size w w' := by
  by_cases h3 : 100 < la
  · have d1 : decide ((100 : Int) < (la : Int)) = true := decide_eq_true (by omega)
    go_enter Try.func14, Try.ntmps14
    go_wp2_with (go_at_call 26; refine (awake17 _).mono ?_; rintro e w' ⟨rfl, hb⟩; obtain ⟨hc, hf⟩ := bcell hb; have hz := hb.size; (try simp at hz); (try have hz1 : w.heap.size < w'.heap.size := by omega); (try have hz2 : w.heap.size + 1 < w'.heap.size := by omega))
    go_ret
    exact ⟨rfl, by (repeat' (first | exact Below.refl _ _ | assumption | (refine Below.grown ?_ (by assumption) (by first | omega | (simp; omega)) (by simp [Value.ownBlock]; try omega)) | (refine below_drewN ?_ _) | (refine Below.drew ?_) | (refine Below.alloc ?_ (by first | omega | (simp; done) | (simp; omega)) _) | (refine Below.setCell ?_ (by first | omega | (simp; done) | (simp; omega)) _) | (refine below_then ?_ (Aft.below _)) | (apply below_then; rotate_left; assumption)))⟩
  · have d1 : decide ((100 : Int) < (la : Int)) = false := decide_eq_false (by omega)
    have d2 : decide ((100 : Int) < (lb : Int)) = true := decide_eq_true (by omega)
    go_enter Try.func14, Try.ntmps14
    go_wp2_with (go_at_call 26; refine (awake17 _).mono ?_; rintro e w' ⟨rfl, hb⟩; obtain ⟨hc, hf⟩ := bcell hb; have hz := hb.size; (try simp at hz); (try have hz1 : w.heap.size < w'.heap.size := by omega); (try have hz2 : w.heap.size + 1 < w'.heap.size := by omega))
    go_ret
    exact ⟨rfl, by (repeat' (first | exact Below.refl _ _ | assumption | (refine Below.grown ?_ (by assumption) (by first | omega | (simp; omega)) (by simp [Value.ownBlock]; try omega)) | (refine below_drewN ?_ _) | (refine Below.drew ?_) | (refine Below.alloc ?_ (by first | omega | (simp; done) | (simp; omega)) _) | (refine Below.setCell ?_ (by first | omega | (simp; done) | (simp; omega)) _) | (refine below_then ?_ (Aft.below _)) | (apply below_then; rotate_left; assumption)))⟩
namespace costSums
theorem costSums_any (a : Option Addr) (la ca : Nat) (xs : List C6) (b : Option Addr) (lb cb : Nat) (ys : List C6) (w : World) (hA : la ≤ 1000 → CrAt w a la xs) (na : a = none → ca = 0) (hlc : la ≤ ca) (hcm : ca ≤ maxLen) (hB : lb ≤ 1000 → CrAt w b lb ys) (nb : b = none → cb = 0) (hld : lb ≤ cb) (hdm : cb ≤ maxLen) :
    Calls Try.prog 14 #[.slice a la ca, .slice b lb cb] w fun e w' => e = .returned (.bool true) ∧ Below w.heap.size w w' := by
  unfold maxLen at hcm hdm
  by_cases h : 100 < la ∨ 100 < lb
  · exact costSums_long a b la ca lb cb w (by omega) (by omega) h
  · exact costSums_go a b la ca lb cb xs ys w (hA (by omega)) (hB (by omega)) na nb (by omega) (by omega)
end costSums
end Go.Proofs.Ytpkfaempgibfaaa
