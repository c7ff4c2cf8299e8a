/- The walk of the law SumsJoin. -/
import Derived.Test.YtlkfgldkgddgaaaSumsL
import Derived.Test.YtlkfgldkgddgaaaSumsQ
namespace Go.Proofs.Ytlkfgldkgddgaaa
set_option linter.unusedVariables false
set_option linter.unusedSimpArgs false
open Go.RowKit
set_option maxRecDepth 100000
set_option maxHeartbeats 4000000
/-- the first k bytes joined, the others as they were. -/
def stepJ (xs js : List Int) (k : Nat) : List Int := js.take k ++ xs.drop k
theorem stepJ_len {xs js : List Int} (h : js.length = xs.length) (k : Nat) (hk : k ≤ xs.length) : (stepJ xs js k).length = xs.length := by
  unfold stepJ; simp; omega
theorem stepJ_at {xs js : List Int} (h : js.length = xs.length) {k : Nat} (hk : k < xs.length) : (stepJ xs js k)[k]?.getD 0 = xs[k]?.getD 0 := by
  unfold stepJ
  rw [List.getElem?_append_right (by rw [List.length_take]; omega), List.getElem?_drop]
  congr 2
  simp
  omega
theorem stepJ_set {xs js : List Int} (h : js.length = xs.length) {k : Nat} (hk : k < xs.length) : (stepJ xs js k).set k (js[k]?.getD 0) = stepJ xs js (k + 1) := by
  apply List.ext_getElem?
  intro i
  unfold stepJ
  rw [List.getElem?_set]
  by_cases h1 : k = i
  · subst h1
    rw [if_pos rfl, if_pos (by simp; omega), List.getElem?_append_left (by simp; omega), List.getElem?_take_of_lt (by omega), List.getElem?_eq_getElem (by omega)]
    simp
  · rw [if_neg h1]
    by_cases h2 : i < k
    · rw [List.getElem?_append_left (by simp; omega), List.getElem?_append_left (by simp; omega), List.getElem?_take_of_lt h2, List.getElem?_take_of_lt (by omega)]
    · rw [List.getElem?_append_right (by simp; omega), List.getElem?_append_right (by simp; omega), List.getElem?_drop, List.getElem?_drop]
      congr 1
      simp
      omega
theorem sumsJoin_go (a b c : Option Addr) (len capa capb capc : Nat) (xs ys zs : List Int) (w : World) (HX : BytesAt w a len xs) (HY : BytesAt w b len ys) (HZ : BytesAt w c len zs) (hna : a = none → capa = 0) (hlen : len ≤ 300) :
    Calls Try.prog 6 #[.slice a len capa, .slice b len capb, .slice c len capc] w fun e w' => e = .returned (.bool true) ∧ Below w.heap.size w w' := by
  have hl : decide ((300 : Int) < len) = false := by simp; omega
  go_enter Try.func6, Try.ntmps6
  go_wp2_with (first | (go_at_call 15; refine (awake01 _).mono ?_; rintro e wa ⟨rfl, hb_wa⟩; obtain ⟨hc_wa, hf_wa⟩ := bcell hb_wa; have hs_wa := hb_wa.size; (try simp at hs_wa); (try have h1_wa : w.heap.size < wa.heap.size := by omega); (try have h3_wa : w.heap.size < wa.heap.size + 1 := by omega); (try have h4_wa : w.heap.size < wa.heap.size + 1 + 1 := by omega); (try have h5_wa : ¬ w.heap.size = wa.heap.size := by omega)) | (at_builtin; refine wpList_append_bytes rfl _ _ rfl (v := .slice (some ⟨wa.heap.size, 0, none⟩) 0 0) rfl (own_empty wa) rfl (HX.below ?hb1) hna ?hb2 ?hb3 ?_; (case hb1 => (repeat' (first | (with_reducible exact Below.refl _ _) | (with_reducible assumption) | (with_reducible refine below_drewN ?_ _) | (with_reducible refine Below.drew ?_) | ((with_reducible refine Below.alloc ?_ ?_ _); (rotate_left; focus (first | omega | (simp; done) | (simp; omega)))) | ((with_reducible refine Below.setCell ?_ ?_ _); (rotate_left; focus (first | omega | (simp; done) | (simp; omega)))) | (with_reducible refine Below.grown ?_ (by assumption) (by first | omega | (simp; omega)) (by simp [Value.ownBlock]; try omega)) | (with_reducible refine below_then ?_ (Aft.below _)) | (with_reducible apply below_then; rotate_left; assumption)))); (case hb2 => omega); (case hb3 => (simp; done)); intro v2 w2 hown hgr; simp only [Nat.zero_add, List.nil_append] at hown; obtain ⟨a2, c2, rfl, hc1, hc2, hB2, hF, hN⟩ := hown.at (by omega)))
  have hbase : w.heap.size ≤ wa.heap.size := by omega
  have L0 : Below w.heap.size w w2 := by
    have h1 : Below w.heap.size w (wa.alloc (.cells #[] 5)) := by (repeat' (first | (with_reducible exact Below.refl _ _) | (with_reducible assumption) | (with_reducible refine below_drewN ?_ _) | (with_reducible refine Below.drew ?_) | ((with_reducible refine Below.alloc ?_ ?_ _); (rotate_left; focus (first | omega | (simp; done) | (simp; omega)))) | ((with_reducible refine Below.setCell ?_ ?_ _); (rotate_left; focus (first | omega | (simp; done) | (simp; omega)))) | (with_reducible refine Below.grown ?_ (by assumption) (by first | omega | (simp; omega)) (by simp [Value.ownBlock]; try omega)) | (with_reducible refine below_then ?_ (Aft.below _)) | (with_reducible apply below_then; rotate_left; assumption)))
    exact h1.trans (hgr.mono hbase)
  have F0 : ∀ b off, a2 = some ⟨b, off, none⟩ → w.heap.size ≤ b ∧ off = 0 ∧ ∀ o, w2.frozen? ⟨b, o, none⟩ = false := fun b off e => by
    obtain ⟨h1, h2, _, h4⟩ := hF b off e
    exact ⟨by omega, h2, h4⟩
  obtain ⟨js, hjs⟩ : ∃ js, join3 xs ys zs = js := ⟨_, rfl⟩
  have hx0 := HX.length
  have hy0 := HY.length
  have hz0 := HZ.length
  have hjl : js.length = xs.length := by
    rw [← hjs]; unfold join3; rw [xorB_len (by rw [xorB_len (by omega)]; omega)]
  have hjk : ∀ k : Nat, k < len → js[k]?.getD 0 = bits .xor .u8 (xs[k]?.getD 0) (bits .xor .u8 (ys[k]?.getD 0) (zs[k]?.getD 0)) := fun k hk => by
    rw [← hjs]; unfold join3 xorB
    rw [List.getElem?_zipWith, List.getElem?_zipWith, List.getElem?_eq_getElem (by omega : k < xs.length), List.getElem?_eq_getElem (by omega : k < ys.length), List.getElem?_eq_getElem (by omega : k < zs.length)]
    rfl
  have hjb : ∀ k : Nat, k < len → isB (js[k]?.getD 0) := fun k hk => by
    rw [hjk k hk]; exact xor_isB (HX.byte k) (xor_isB (HY.byte k) (HZ.byte k))
  have HJ := Lib.hid hjs
  have HJK := Lib.hid hjk
  have HJB := Lib.hid hjb
  have HXL := Lib.hid hx0
  have HJL := Lib.hid hjl
  have FF0 := Lib.hid F0
  clear hjs hjk hjb hx0 hy0 hz0 hjl F0 hF hown hgr hc_wa hf_wa hb_wa
  have S0 : BytesAt w2 a2 len (stepJ xs js 0) := by unfold stepJ; simpa using hB2
  clear hB2
  go_loopw [8, 36] (fun s8 s36 wr => ∃ k : Nat, k ≤ len ∧ s36 = .int .i64 k ∧ BytesAt wr a2 len (stepJ xs js k) ∧ Below w.heap.size w wr ∧ Hid (∀ b off, a2 = some ⟨b, off, none⟩ → ∀ o, wr.frozen? ⟨b, o, none⟩ = false)) (fun s8 s36 wr => len - (intOf s36).toNat)
  case atStart => exact ⟨0, by omega, rfl, S0, L0, Lib.hid fun b off e => (FF0.out b off e).2.2⟩
  case round =>
    obtain ⟨k, hk, rfl, hS, hBw, hFr⟩ := hrel
    by_cases hlt : k < len
    · obtain ⟨g, hg⟩ : ∃ g, a2 = some ⟨g, 0, none⟩ := by
        obtain ⟨b, off, e, _⟩ := hS.cells (by omega)
        obtain ⟨_, h0, _⟩ := FF0.out b off e
        exact ⟨b, by rw [e, h0]⟩
      subst hg
      obtain ⟨hg1, _, _⟩ := FF0.out g 0 rfl
      obtain ⟨x, hx⟩ : ∃ x, xs[k]?.getD 0 = x := ⟨_, rfl⟩
      obtain ⟨y, hy⟩ : ∃ y, ys[k]?.getD 0 = y := ⟨_, rfl⟩
      obtain ⟨z, hz⟩ : ∃ z, zs[k]?.getD 0 = z := ⟨_, rfl⟩
      have hsk := stepJ_at (xs := xs) (js := js) HJL.out (k := k) (by rw [HXL.out]; exact hlt)
      have hv := HJK.out k hlt
      rw [hx, hy, hz] at hv
      have hvb := HJB.out k hlt
      rw [hv] at hvb
      obtain ⟨b1, o1, e1, _, hc1'⟩ := hS.cells (by omega)
      injection e1 with e1; injection e1 with e2 e3; subst e2; subst e3
      have cs := hc1' k hlt
      rw [Nat.zero_add, hsk, hx] at cs
      obtain ⟨yb, yo, rfl, _, hcy⟩ := (HY.below hBw).cells (by omega)
      have cy := hcy k hlt
      rw [hy] at cy
      obtain ⟨zb, zo, rfl, _, hcz⟩ := (HZ.below hBw).cells (by omega)
      have cz := hcz k hlt
      rw [hz] at cz
      have fr := hFr.out _ _ rfl k
      have HV := Lib.hid hv
      have HSK := Lib.hid (stepJ_set (xs := xs) (js := js) HJL.out (k := k) (by rw [HXL.out]; exact hlt))
      have hkl : (k : Int) < len := by omega
      clear hx hy hz hsk hv hcy hcz hc1'
      have hw : ∃ w3 : World, w3 = wr.drew := ⟨_, rfl⟩
      obtain ⟨w3, hw3⟩ := hw
      have S3 : BytesAt w3 (some ⟨g, 0, none⟩) len (stepJ xs js k) := by rw [hw3]; exact hS.below ((Below.refl _ _).drew)
      have B3 : Below w.heap.size w w3 := by rw [hw3]; exact hBw.drew
      have cs3 : w3.cell? ⟨g, k, none⟩ = some (.int .u8 x) := by rw [hw3]; exact cs
      have cy3 : w3.cell? ⟨yb, yo + k, none⟩ = some (.int .u8 y) := by rw [hw3]; exact cy
      have cz3 : w3.cell? ⟨zb, zo + k, none⟩ = some (.int .u8 z) := by rw [hw3]; exact cz
      have fr3 : w3.frozen? ⟨g, k, none⟩ = false := by rw [hw3]; exact fr
      have FR3 : Hid (∀ o, w3.frozen? ⟨g, o, none⟩ = false) := Lib.hid (fun o => by rw [hw3]; exact hFr.out _ _ rfl o)
      go_wp2_with fail
      refine region_tail 15 (by kernel_rfl) (by kernel_rfl) ?_
      rw [← hw3]
      clear hw3 cs cy cz fr hS hBw hFr
      simp only [List.take_succ_cons, List.take_zero, List.drop_succ_cons, List.drop_zero]
      repeat still_step
      refine wpStill_nil ?_
      go_wp2
      go_roundw
      case rel =>
        go_light
        refine ⟨k + 1, by omega, by go_num, ?_, by (repeat' (first | (with_reducible exact Below.refl _ _) | (with_reducible assumption) | (with_reducible refine below_drewN ?_ _) | (with_reducible refine Below.drew ?_) | ((with_reducible refine Below.alloc ?_ ?_ _); (rotate_left; focus (first | omega | (simp; done) | (simp; omega)))) | ((with_reducible refine Below.setCell ?_ ?_ _); (rotate_left; focus (first | omega | (simp; done) | (simp; omega)))) | (with_reducible refine Below.grown ?_ (by assumption) (by first | omega | (simp; omega)) (by simp [Value.ownBlock]; try omega)) | (with_reducible refine below_then ?_ (Aft.below _)) | (with_reducible apply below_then; rotate_left; assumption))), ?_⟩
        · have := S3.set hlt hvb.1 hvb.2
          rw [← HV.out, HSK.out, HV.out] at this
          exact this
        · refine Lib.hid fun b off e o => ?_
          injection e with e; injection e with e1 e2
          subst e1
          rw [World.frozen?_setCell]
          exact FR3.out o
      case measure => go_light; simp [intOf]; omega
    · obtain rfl : k = len := by omega
      have J1 : BytesAt wr a2 k (join3 xs ys zs) := by
        have e : stepJ xs js k = js := by
          unfold stepJ
          rw [List.take_of_length_le (by rw [HJL.out, HXL.out]; omega), List.drop_eq_nil_of_le (by rw [HXL.out]; omega), List.append_nil]
        rw [e] at hS
        rw [HJ.out]
        exact hS
      have q8 := join8 (xs := xs) (ys := ys) (zs := zs) (by rw [HY.length, HX.length]) (by rw [HZ.length, HX.length]) (allB_of HX.byte) (allB_of HY.byte) (allB_of HZ.byte)
      have q10 := join10 (xs := xs) (ys := ys) (zs := zs) (by rw [HY.length, HX.length]) (by rw [HZ.length, HX.length]) (allB_of HX.byte) (allB_of HY.byte) (allB_of HZ.byte)
      have q32 := join32 (xs := xs) (ys := ys) (zs := zs) (by rw [HY.length, HX.length]) (by rw [HZ.length, HX.length]) (allB_of HX.byte) (allB_of HY.byte) (allB_of HZ.byte)
      have X1 := HX.below hBw
      have Y1 := HY.below hBw
      have Z1 := HZ.below hBw
      clear hS hFr HJ HJK HJB HXL HJL FF0 S0 L0
      generalize join3 xs ys zs = js at q8 q10 q32 J1
      go_wp2_with (first | (go_at_call 16; (first | ((with_reducible refine (eight_at (J1.below ?hqEight0)).mono ?_); (case hqEight0 => (repeat' (first | (with_reducible exact Below.refl _ _) | (with_reducible assumption) | (with_reducible refine below_drewN ?_ _) | (with_reducible refine Below.drew ?_) | ((with_reducible refine Below.alloc ?_ ?_ _); (rotate_left; focus (first | omega | (simp; done) | (simp; omega)))) | ((with_reducible refine Below.setCell ?_ ?_ _); (rotate_left; focus (first | omega | (simp; done) | (simp; omega)))) | (with_reducible refine Below.grown ?_ (by assumption) (by first | omega | (simp; omega)) (by simp [Value.ownBlock]; try omega)) | (with_reducible refine below_then ?_ (Aft.below _)) | (with_reducible apply below_then; rotate_left; assumption))))) | ((with_reducible refine (eight_at (X1.below ?hqEight1)).mono ?_); (case hqEight1 => (repeat' (first | (with_reducible exact Below.refl _ _) | (with_reducible assumption) | (with_reducible refine below_drewN ?_ _) | (with_reducible refine Below.drew ?_) | ((with_reducible refine Below.alloc ?_ ?_ _); (rotate_left; focus (first | omega | (simp; done) | (simp; omega)))) | ((with_reducible refine Below.setCell ?_ ?_ _); (rotate_left; focus (first | omega | (simp; done) | (simp; omega)))) | (with_reducible refine Below.grown ?_ (by assumption) (by first | omega | (simp; omega)) (by simp [Value.ownBlock]; try omega)) | (with_reducible refine below_then ?_ (Aft.below _)) | (with_reducible apply below_then; rotate_left; assumption))))) | ((with_reducible refine (eight_at (Y1.below ?hqEight2)).mono ?_); (case hqEight2 => (repeat' (first | (with_reducible exact Below.refl _ _) | (with_reducible assumption) | (with_reducible refine below_drewN ?_ _) | (with_reducible refine Below.drew ?_) | ((with_reducible refine Below.alloc ?_ ?_ _); (rotate_left; focus (first | omega | (simp; done) | (simp; omega)))) | ((with_reducible refine Below.setCell ?_ ?_ _); (rotate_left; focus (first | omega | (simp; done) | (simp; omega)))) | (with_reducible refine Below.grown ?_ (by assumption) (by first | omega | (simp; omega)) (by simp [Value.ownBlock]; try omega)) | (with_reducible refine below_then ?_ (Aft.below _)) | (with_reducible apply below_then; rotate_left; assumption))))) | ((with_reducible refine (eight_at (Z1.below ?hqEight3)).mono ?_); (case hqEight3 => (repeat' (first | (with_reducible exact Below.refl _ _) | (with_reducible assumption) | (with_reducible refine below_drewN ?_ _) | (with_reducible refine Below.drew ?_) | ((with_reducible refine Below.alloc ?_ ?_ _); (rotate_left; focus (first | omega | (simp; done) | (simp; omega)))) | ((with_reducible refine Below.setCell ?_ ?_ _); (rotate_left; focus (first | omega | (simp; done) | (simp; omega)))) | (with_reducible refine Below.grown ?_ (by assumption) (by first | omega | (simp; omega)) (by simp [Value.ownBlock]; try omega)) | (with_reducible refine below_then ?_ (Aft.below _)) | (with_reducible apply below_then; rotate_left; assumption)))))); rintro e ww ⟨rfl, hb_ww⟩) | (go_at_call 22; (first | ((with_reducible refine (ten_at (J1.below ?hqTen0)).mono ?_); (case hqTen0 => (repeat' (first | (with_reducible exact Below.refl _ _) | (with_reducible assumption) | (with_reducible refine below_drewN ?_ _) | (with_reducible refine Below.drew ?_) | ((with_reducible refine Below.alloc ?_ ?_ _); (rotate_left; focus (first | omega | (simp; done) | (simp; omega)))) | ((with_reducible refine Below.setCell ?_ ?_ _); (rotate_left; focus (first | omega | (simp; done) | (simp; omega)))) | (with_reducible refine Below.grown ?_ (by assumption) (by first | omega | (simp; omega)) (by simp [Value.ownBlock]; try omega)) | (with_reducible refine below_then ?_ (Aft.below _)) | (with_reducible apply below_then; rotate_left; assumption))))) | ((with_reducible refine (ten_at (X1.below ?hqTen1)).mono ?_); (case hqTen1 => (repeat' (first | (with_reducible exact Below.refl _ _) | (with_reducible assumption) | (with_reducible refine below_drewN ?_ _) | (with_reducible refine Below.drew ?_) | ((with_reducible refine Below.alloc ?_ ?_ _); (rotate_left; focus (first | omega | (simp; done) | (simp; omega)))) | ((with_reducible refine Below.setCell ?_ ?_ _); (rotate_left; focus (first | omega | (simp; done) | (simp; omega)))) | (with_reducible refine Below.grown ?_ (by assumption) (by first | omega | (simp; omega)) (by simp [Value.ownBlock]; try omega)) | (with_reducible refine below_then ?_ (Aft.below _)) | (with_reducible apply below_then; rotate_left; assumption))))) | ((with_reducible refine (ten_at (Y1.below ?hqTen2)).mono ?_); (case hqTen2 => (repeat' (first | (with_reducible exact Below.refl _ _) | (with_reducible assumption) | (with_reducible refine below_drewN ?_ _) | (with_reducible refine Below.drew ?_) | ((with_reducible refine Below.alloc ?_ ?_ _); (rotate_left; focus (first | omega | (simp; done) | (simp; omega)))) | ((with_reducible refine Below.setCell ?_ ?_ _); (rotate_left; focus (first | omega | (simp; done) | (simp; omega)))) | (with_reducible refine Below.grown ?_ (by assumption) (by first | omega | (simp; omega)) (by simp [Value.ownBlock]; try omega)) | (with_reducible refine below_then ?_ (Aft.below _)) | (with_reducible apply below_then; rotate_left; assumption))))) | ((with_reducible refine (ten_at (Z1.below ?hqTen3)).mono ?_); (case hqTen3 => (repeat' (first | (with_reducible exact Below.refl _ _) | (with_reducible assumption) | (with_reducible refine below_drewN ?_ _) | (with_reducible refine Below.drew ?_) | ((with_reducible refine Below.alloc ?_ ?_ _); (rotate_left; focus (first | omega | (simp; done) | (simp; omega)))) | ((with_reducible refine Below.setCell ?_ ?_ _); (rotate_left; focus (first | omega | (simp; done) | (simp; omega)))) | (with_reducible refine Below.grown ?_ (by assumption) (by first | omega | (simp; omega)) (by simp [Value.ownBlock]; try omega)) | (with_reducible refine below_then ?_ (Aft.below _)) | (with_reducible apply below_then; rotate_left; assumption)))))); rintro e ww ⟨rfl, hb_ww⟩) | (go_at_call 24; (first | ((with_reducible refine (long_at (J1.below ?hqLong0)).mono ?_); (case hqLong0 => (repeat' (first | (with_reducible exact Below.refl _ _) | (with_reducible assumption) | (with_reducible refine below_drewN ?_ _) | (with_reducible refine Below.drew ?_) | ((with_reducible refine Below.alloc ?_ ?_ _); (rotate_left; focus (first | omega | (simp; done) | (simp; omega)))) | ((with_reducible refine Below.setCell ?_ ?_ _); (rotate_left; focus (first | omega | (simp; done) | (simp; omega)))) | (with_reducible refine Below.grown ?_ (by assumption) (by first | omega | (simp; omega)) (by simp [Value.ownBlock]; try omega)) | (with_reducible refine below_then ?_ (Aft.below _)) | (with_reducible apply below_then; rotate_left; assumption))))) | ((with_reducible refine (long_at (X1.below ?hqLong1)).mono ?_); (case hqLong1 => (repeat' (first | (with_reducible exact Below.refl _ _) | (with_reducible assumption) | (with_reducible refine below_drewN ?_ _) | (with_reducible refine Below.drew ?_) | ((with_reducible refine Below.alloc ?_ ?_ _); (rotate_left; focus (first | omega | (simp; done) | (simp; omega)))) | ((with_reducible refine Below.setCell ?_ ?_ _); (rotate_left; focus (first | omega | (simp; done) | (simp; omega)))) | (with_reducible refine Below.grown ?_ (by assumption) (by first | omega | (simp; omega)) (by simp [Value.ownBlock]; try omega)) | (with_reducible refine below_then ?_ (Aft.below _)) | (with_reducible apply below_then; rotate_left; assumption))))) | ((with_reducible refine (long_at (Y1.below ?hqLong2)).mono ?_); (case hqLong2 => (repeat' (first | (with_reducible exact Below.refl _ _) | (with_reducible assumption) | (with_reducible refine below_drewN ?_ _) | (with_reducible refine Below.drew ?_) | ((with_reducible refine Below.alloc ?_ ?_ _); (rotate_left; focus (first | omega | (simp; done) | (simp; omega)))) | ((with_reducible refine Below.setCell ?_ ?_ _); (rotate_left; focus (first | omega | (simp; done) | (simp; omega)))) | (with_reducible refine Below.grown ?_ (by assumption) (by first | omega | (simp; omega)) (by simp [Value.ownBlock]; try omega)) | (with_reducible refine below_then ?_ (Aft.below _)) | (with_reducible apply below_then; rotate_left; assumption))))) | ((with_reducible refine (long_at (Z1.below ?hqLong3)).mono ?_); (case hqLong3 => (repeat' (first | (with_reducible exact Below.refl _ _) | (with_reducible assumption) | (with_reducible refine below_drewN ?_ _) | (with_reducible refine Below.drew ?_) | ((with_reducible refine Below.alloc ?_ ?_ _); (rotate_left; focus (first | omega | (simp; done) | (simp; omega)))) | ((with_reducible refine Below.setCell ?_ ?_ _); (rotate_left; focus (first | omega | (simp; done) | (simp; omega)))) | (with_reducible refine Below.grown ?_ (by assumption) (by first | omega | (simp; omega)) (by simp [Value.ownBlock]; try omega)) | (with_reducible refine below_then ?_ (Aft.below _)) | (with_reducible apply below_then; rotate_left; assumption)))))); rintro e ww ⟨rfl, hb_ww⟩))
      go_ret
      exact ⟨ret_bool (by simp), by (repeat' (first | (with_reducible exact Below.refl _ _) | (with_reducible assumption) | (with_reducible refine below_drewN ?_ _) | (with_reducible refine Below.drew ?_) | ((with_reducible refine Below.alloc ?_ ?_ _); (rotate_left; focus (first | omega | (simp; done) | (simp; omega)))) | ((with_reducible refine Below.setCell ?_ ?_ _); (rotate_left; focus (first | omega | (simp; done) | (simp; omega)))) | (with_reducible refine Below.grown ?_ (by assumption) (by first | omega | (simp; omega)) (by simp [Value.ownBlock]; try omega)) | (with_reducible refine below_then ?_ (Aft.below _)) | (with_reducible apply below_then; rotate_left; assumption)))⟩
theorem sumsJoin_any (a : Option Addr) (len capa : Nat) (xs : List Int) (b : Option Addr) (lenb capb : Nat) (ys : List Int) (c : Option Addr) (lenc capc : Nat) (zs : List Int) (w : World) (HX : len ≤ 140737488355328 → BytesAt w a len xs) (NA : a = none → capa = 0) (HY : lenb ≤ 140737488355328 → BytesAt w b lenb ys) (NB : b = none → capb = 0) (HZ : lenc ≤ 140737488355328 → BytesAt w c lenc zs) (NC : c = none → capc = 0) :
    Calls Try.prog 6 #[.slice a len capa, .slice b lenb capb, .slice c lenc capc] w fun e w' => e = .returned (.bool true) ∧ Below w.heap.size w w' := by
  by_cases hl : len ≤ 300
  · by_cases hb : lenb = len
    · by_cases hc : lenc = len
      · have H1 := HX (by omega)
        have H2 := HY (by omega)
        have H3 := HZ (by omega)
        rw [hb] at H2 ⊢
        rw [hc] at H3 ⊢
        exact sumsJoin_go a b c len capa capb capc xs ys zs w H1 H2 H3 NA hl
      · have h0 : decide ((300 : Int) < len) = false := by simp; omega
        rw [hb]
        have h2 : ((lenc : Int) == len) = false := by simp; omega
        have h3 : ((lenc : Int) != len) = true := by simp; omega
        have h4 : (lenc == len) = false := by simp; omega
        have h5 : (lenc != len) = true := by simp; omega
        clear HX HY HZ
        go_enter Try.func6, Try.ntmps6
        go_wp2_with (first | (go_at_call 15; refine (awake01 _).mono ?_; rintro e wa ⟨rfl, hb_wa⟩; obtain ⟨hc_wa, hf_wa⟩ := bcell hb_wa; have hs_wa := hb_wa.size; (try simp at hs_wa); (try have h1_wa : w.heap.size < wa.heap.size := by omega); (try have h3_wa : w.heap.size < wa.heap.size + 1 := by omega); (try have h4_wa : w.heap.size < wa.heap.size + 1 + 1 := by omega); (try have h5_wa : ¬ w.heap.size = wa.heap.size := by omega)))
        go_ret
        exact ⟨rfl, by (repeat' (first | (with_reducible exact Below.refl _ _) | (with_reducible assumption) | (with_reducible refine below_drewN ?_ _) | (with_reducible refine Below.drew ?_) | ((with_reducible refine Below.alloc ?_ ?_ _); (rotate_left; focus (first | omega | (simp; done) | (simp; omega)))) | ((with_reducible refine Below.setCell ?_ ?_ _); (rotate_left; focus (first | omega | (simp; done) | (simp; omega)))) | (with_reducible refine Below.grown ?_ (by assumption) (by first | omega | (simp; omega)) (by simp [Value.ownBlock]; try omega)) | (with_reducible refine below_then ?_ (Aft.below _)) | (with_reducible apply below_then; rotate_left; assumption)))⟩
    · have h0 : decide ((300 : Int) < len) = false := by simp; omega
      have h2 : ((lenb : Int) == len) = false := by simp; omega
      have h3 : ((lenb : Int) != len) = true := by simp; omega
      have h4 : (lenb == len) = false := by simp; omega
      have h5 : (lenb != len) = true := by simp; omega
      clear HX HY HZ
      go_enter Try.func6, Try.ntmps6
      go_wp2_with (first | (go_at_call 15; refine (awake01 _).mono ?_; rintro e wa ⟨rfl, hb_wa⟩; obtain ⟨hc_wa, hf_wa⟩ := bcell hb_wa; have hs_wa := hb_wa.size; (try simp at hs_wa); (try have h1_wa : w.heap.size < wa.heap.size := by omega); (try have h3_wa : w.heap.size < wa.heap.size + 1 := by omega); (try have h4_wa : w.heap.size < wa.heap.size + 1 + 1 := by omega); (try have h5_wa : ¬ w.heap.size = wa.heap.size := by omega)))
      go_ret
      exact ⟨rfl, by (repeat' (first | (with_reducible exact Below.refl _ _) | (with_reducible assumption) | (with_reducible refine below_drewN ?_ _) | (with_reducible refine Below.drew ?_) | ((with_reducible refine Below.alloc ?_ ?_ _); (rotate_left; focus (first | omega | (simp; done) | (simp; omega)))) | ((with_reducible refine Below.setCell ?_ ?_ _); (rotate_left; focus (first | omega | (simp; done) | (simp; omega)))) | (with_reducible refine Below.grown ?_ (by assumption) (by first | omega | (simp; omega)) (by simp [Value.ownBlock]; try omega)) | (with_reducible refine below_then ?_ (Aft.below _)) | (with_reducible apply below_then; rotate_left; assumption)))⟩
  · have h0 : decide ((300 : Int) < len) = true := by simp; omega
    clear HX HY HZ
    go_enter Try.func6, Try.ntmps6
    go_wp2_with (first | (go_at_call 15; refine (awake01 _).mono ?_; rintro e wa ⟨rfl, hb_wa⟩; obtain ⟨hc_wa, hf_wa⟩ := bcell hb_wa; have hs_wa := hb_wa.size; (try simp at hs_wa); (try have h1_wa : w.heap.size < wa.heap.size := by omega); (try have h3_wa : w.heap.size < wa.heap.size + 1 := by omega); (try have h4_wa : w.heap.size < wa.heap.size + 1 + 1 := by omega); (try have h5_wa : ¬ w.heap.size = wa.heap.size := by omega)))
    go_ret
    exact ⟨rfl, by (repeat' (first | (with_reducible exact Below.refl _ _) | (with_reducible assumption) | (with_reducible refine below_drewN ?_ _) | (with_reducible refine Below.drew ?_) | ((with_reducible refine Below.alloc ?_ ?_ _); (rotate_left; focus (first | omega | (simp; done) | (simp; omega)))) | ((with_reducible refine Below.setCell ?_ ?_ _); (rotate_left; focus (first | omega | (simp; done) | (simp; omega)))) | (with_reducible refine Below.grown ?_ (by assumption) (by first | omega | (simp; omega)) (by simp [Value.ownBlock]; try omega)) | (with_reducible refine below_then ?_ (Aft.below _)) | (with_reducible apply below_then; rotate_left; assumption)))⟩
end Go.Proofs.Ytlkfgldkgddgaaa
