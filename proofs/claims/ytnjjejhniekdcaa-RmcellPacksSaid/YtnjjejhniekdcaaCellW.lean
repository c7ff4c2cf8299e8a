/- The walk of cell.Seal. -/
import Derived.Test.YtnjjejhniekdcaaCellM
namespace Go.Proofs.Ytnjjejhniekdcaa
set_option linter.unusedVariables false
set_option linter.unusedSimpArgs false
open Go.RowKit
set_option maxRecDepth 100000
set_option maxHeartbeats 4000000
theorem cellSeal_any (zs : List Int) (w : World) (hl : zs.length = 48) (hb : allB zs) :
    Calls Try.prog 27 #[.agg (u8s zs).toArray] w fun e w' => e = .returned (.agg (u8s (sealZ zs)).toArray) ∧ Below w.heap.size w w' := by
  have hsz : (u8s zs).toArray.size = 48 := by simp [hl]
  go_enter Try.func27, Try.ntmps27
  go_wp2
  obtain ⟨w1, hw1⟩ : ∃ w1, w1 = ((w.alloc (.cells (u8s zs).toArray 26)).alloc (.cells #[.int .u8 0, .int .u8 0, .int .u8 0, .int .u8 0, .int .u8 0, .int .u8 0, .int .u8 0, .int .u8 0, .int .u8 0, .int .u8 0, .int .u8 0, .int .u8 0, .int .u8 0, .int .u8 0, .int .u8 0, .int .u8 0, .int .u8 0, .int .u8 0, .int .u8 0, .int .u8 0, .int .u8 0, .int .u8 0, .int .u8 0, .int .u8 0, .int .u8 0, .int .u8 0, .int .u8 0, .int .u8 0, .int .u8 0, .int .u8 0, .int .u8 0, .int .u8 0, .int .u8 0, .int .u8 0, .int .u8 0, .int .u8 0, .int .u8 0, .int .u8 0, .int .u8 0, .int .u8 0, .int .u8 0, .int .u8 0, .int .u8 0, .int .u8 0, .int .u8 0, .int .u8 0, .int .u8 0, .int .u8 0] 26)).alloc (.cells #[.int .u8 0, .int .u8 0, .int .u8 0, .int .u8 0, .int .u8 0, .int .u8 0, .int .u8 0, .int .u8 0, .int .u8 0, .int .u8 0, .int .u8 0, .int .u8 0, .int .u8 0, .int .u8 0, .int .u8 0, .int .u8 0, .int .u8 0, .int .u8 0, .int .u8 0, .int .u8 0, .int .u8 0, .int .u8 0, .int .u8 0, .int .u8 0, .int .u8 0, .int .u8 0, .int .u8 0, .int .u8 0, .int .u8 0, .int .u8 0, .int .u8 0, .int .u8 0, .int .u8 0, .int .u8 0, .int .u8 0, .int .u8 0, .int .u8 0, .int .u8 0, .int .u8 0, .int .u8 0, .int .u8 0, .int .u8 0, .int .u8 0, .int .u8 0, .int .u8 0, .int .u8 0, .int .u8 0] 70) := ⟨_, rfl⟩
  have Z0 : BytesAt w1 (some ⟨w.heap.size, 0, none⟩) 48 zs := by
    have h := bytes_lit (w := w) (E := 26) (fr := (0, 0)) zs hb (by omega)
    rw [hl] at h
    rw [hw1]
    exact (h.below ((Below.refl _ _).alloc (Nat.le_refl _) _)).below ((Below.refl _ _).alloc (Nat.le_refl _) _)
  have T0 : BytesAt w1 (some ⟨w.heap.size + 1, 0, none⟩) 48 (List.replicate 48 0) := by
    rw [hw1]
    exact BytesAt.below (bytes_topU (List.replicate 48 0) (by simp) (by rfl) (by decide) (by decide)) ((Below.refl _ _).alloc (Nat.le_refl _) _)
  have H0 : BytesAt w1 (some ⟨w.heap.size + 1 + 1, 0, none⟩) 47 (stepJ (List.replicate 47 0) (shiftZ zs) 0) := by
    rw [hw1]
    exact bytes_topU (List.replicate 47 0) (by simp) (by rfl) (by decide) (by decide)
  have FZ : ∀ o, w1.frozen? ⟨w.heap.size, o, none⟩ = false := fun o => by
    rw [hw1, frozen_under (by simp; omega), frozen_under (by simp)]; exact frozen_top rfl
  have FT : ∀ o, w1.frozen? ⟨w.heap.size + 1, o, none⟩ = false := fun o => by
    rw [hw1, frozen_under (by simp)]; exact frozen_top (by simp)
  have FH : ∀ o, w1.frozen? ⟨w.heap.size + 1 + 1, o, none⟩ = false := fun o => by
    rw [hw1]; exact frozen_top (by simp)
  have B0 : Below w.heap.size w w1 := by rw [hw1]; (repeat' (first | (with_reducible exact Below.refl _ _) | (with_reducible assumption) | (with_reducible refine below_drewN ?_ _) | (with_reducible refine Below.drew ?_) | ((with_reducible refine Below.alloc ?_ ?_ _); (rotate_left; focus (first | omega | (simp; done) | (simp; omega)))) | ((with_reducible refine Below.setCell ?_ ?_ _); (rotate_left; focus (first | omega | (simp; done) | (simp; omega)))) | (with_reducible refine Below.grown ?_ (by assumption) (by first | omega | (simp; omega)) (by simp [Value.ownBlock]; try omega)) | (with_reducible refine below_then ?_ (Aft.below _)) | (with_reducible apply below_then; rotate_left; assumption)))
  rw [← hw1]
  clear hw1
  have hjl : (shiftZ zs).length = (List.replicate 47 (0 : Int)).length := by rw [shiftZ_len]; simp
  go_loopw [4, 5, 7] (fun s4 s5 s7 wr => ∃ i : Nat, i ≤ 47 ∧ s7 = .int .i64 i ∧ s4 = .int .u8 (if i = 0 then 0 else (zs[i - 1]?.getD 0) % 4 * 64) ∧ BytesAt wr (some ⟨w.heap.size, 0, none⟩) 48 zs ∧ BytesAt wr (some ⟨w.heap.size + 1, 0, none⟩) 48 (List.replicate 48 0) ∧ BytesAt wr (some ⟨w.heap.size + 1 + 1, 0, none⟩) 47 (stepJ (List.replicate 47 0) (shiftZ zs) i) ∧ (∀ o, wr.frozen? ⟨w.heap.size, o, none⟩ = false) ∧ (∀ o, wr.frozen? ⟨w.heap.size + 1, o, none⟩ = false) ∧ (∀ o, wr.frozen? ⟨w.heap.size + 1 + 1, o, none⟩ = false) ∧ Below w.heap.size w wr) (fun s4 s5 s7 wr => 47 - (intOf s7).toNat)
  case atStart => exact ⟨0, by omega, rfl, rfl, Z0, T0, H0, FZ, FT, FH, B0⟩
  case round =>
    clear Z0 T0 H0 FZ FT FH B0
    obtain ⟨i, hi, rfl, rfl, Z0, T0, H0, FZ, FT, FH, hBw⟩ := hrel
    by_cases hlt : i < 47
    · have cz := Z0.cellAt (k := i) (by omega)
      have ch := H0.cellAt (k := i) hlt
      rw [Nat.zero_add] at cz ch
      have fh := FH i
      have hB := byte_B hb
      have hi47 : (i : Int) < 47 := by omega
      have hi48 : (i : Int) < 48 := by omega
      have hi48' : i < 48 := by omega
      obtain ⟨ca, hca⟩ : ∃ ca, (if i = 0 then 0 else (zs[i - 1]?.getD 0) % 4 * 64) = ca := ⟨_, rfl⟩
      have hcab : 0 ≤ ca ∧ ca < 256 := by
        rw [← hca]; split
        · omega
        · have := hB (i - 1); unfold isB at this; omega
      have hcaq : ∃ q, ca = q * 2 ^ 6 ∧ 0 ≤ q ∧ q < 4 := by
        rw [← hca]; split
        · exact ⟨0, by omega, by omega, by omega⟩
        · exact ⟨(zs[i - 1]?.getD 0) % 4, by omega, by omega, by omega⟩
      obtain ⟨z, hz⟩ : ∃ z, zs[i]?.getD 0 = z := ⟨_, rfl⟩
      have hzb : 0 ≤ z ∧ z < 256 := by rw [← hz]; exact hB i
      obtain ⟨cq, hcq1, hcq2, hcq3⟩ := hcaq
      have hor : bits .or .u8 ca (z / 4) = ca + z / 4 := by rw [hcq1]; exact u8_or_plus 6 cq (z / 4) hcq2 (by omega) (by omega) (by omega) (by omega)
      have hsum : ca + z / 4 < 256 := by rw [hcq1]; omega
      have hval : (shiftZ zs)[i]?.getD 0 = ca + z / 4 := by rw [shiftZ_at zs i hlt, hca, hz]
      have hset := stepJ_set hjl (k := i) (by simpa using hlt)
      rw [hval] at hset
      rw [hz] at cz
      rw [hca]
      have HCA := Lib.hid hca
      have HZ := Lib.hid hz
      have HSET := Lib.hid hset
      have HVAL := Lib.hid hval
      clear hca hz hset hval hcq1
      go_wp2
      go_roundw
      case rel =>
        refine ⟨i + 1, by omega, by push_cast; rfl, ?_, ?_, ?_, ?_, ?_, ?_, ?_, ?_⟩
        · have hz := HZ.out
          rw [if_neg (by omega), Nat.add_sub_cancel, hz]
          congr 1; omega
        · exact Z0.setOther (fun b off e => by injection e with e; injection e with e1; omega)
        · exact T0.setOther (fun b off e => by injection e with e; injection e with e1; omega)
        · exact H0.setRow hlt (by omega) (by omega) HSET.out
        · intro o; rw [World.frozen?_setCell]; exact FZ o
        · intro o; rw [World.frozen?_setCell]; exact FT o
        · intro o; rw [World.frozen?_setCell]; exact FH o
        · (repeat' (first | (with_reducible exact Below.refl _ _) | (with_reducible assumption) | (with_reducible refine below_drewN ?_ _) | (with_reducible refine Below.drew ?_) | ((with_reducible refine Below.alloc ?_ ?_ _); (rotate_left; focus (first | omega | (simp; done) | (simp; omega)))) | ((with_reducible refine Below.setCell ?_ ?_ _); (rotate_left; focus (first | omega | (simp; done) | (simp; omega)))) | (with_reducible refine Below.grown ?_ (by assumption) (by first | omega | (simp; omega)) (by simp [Value.ownBlock]; try omega)) | (with_reducible refine below_then ?_ (Aft.below _)) | (with_reducible apply below_then; rotate_left; assumption)))
      case measure => show 47 - ((i : Int) + 1).toNat < 47 - (i : Int).toNat; omega
    · obtain rfl : i = 47 := by omega
      have hall : stepJ (List.replicate 47 0) (shiftZ zs) 47 = shiftZ zs := by
        have := stepJ_all hjl; simpa using this
      rw [hall] at H0
      have hwr : w.heap.size + 1 + 1 < wr.heap.size := by
        obtain ⟨b', o', e, h, _⟩ := H0.cells (by omega); injection e with e; injection e with e1 e2; subst e1; exact h
      have hwr1 : w.heap.size < wr.heap.size := by omega
      have hwr2 : w.heap.size + 1 < wr.heap.size := by omega
      have c46 := Z0.cellAt (k := 46) (by omega)
      have c47 := Z0.cellAt (k := 47) (by omega)
      rw [Nat.zero_add] at c46 c47
      have f46 := FZ 46
      have f47 := FZ 47
      obtain ⟨z, hz⟩ : ∃ z, zs[46]?.getD 0 = z := ⟨_, rfl⟩
      have hzb : 0 ≤ z ∧ z < 256 := by rw [← hz]; exact byte_B hb 46
      obtain ⟨n, hn⟩ : ∃ n, regN zs = n := ⟨_, rfl⟩
      have hnb : 0 ≤ n ∧ n < 1024 := by rw [← hn]; exact regN_bd zs
      rw [hz] at c46
      have hand : bits .andNot .u8 z 3 = z / 4 * 4 := u8_andNot3 z hzb.1 hzb.2
      have hor : bits .or .u8 (z / 4 * 4) (n / 256) = z / 4 * 4 + n / 256 := u8_or_plus 2 (z / 4) (n / 256) (by omega) (by omega) (by omega) (by omega) (by omega)
      have hm : n / 256 % 256 = n / 256 := by omega
      have ht := t10_shift hl hb
      rw [hn] at ht
      have HT := Lib.hid ht
      have HN := Lib.hid hn
      have HZ := Lib.hid hz
      have HL := Lib.hid hl
      have HS : (zs.set 46 (z / 4 * 4 + n / 256)).set 47 (n % 256) = sealZ zs := by unfold sealZ; rw [hz, hn]
      clear ht hn hz hl hall
      go_wp2_with (first | (go_at_call 37; (with_reducible refine (ten_at (H0.below ?hq)).mono ?_); (case hq => (repeat' (first | (with_reducible exact Below.refl _ _) | (with_reducible assumption) | (with_reducible refine below_drewN ?_ _) | (with_reducible refine Below.drew ?_) | ((with_reducible refine Below.alloc ?_ ?_ _); (rotate_left; focus (first | omega | (simp; done) | (simp; omega)))) | ((with_reducible refine Below.setCell ?_ ?_ _); (rotate_left; focus (first | omega | (simp; done) | (simp; omega)))) | (with_reducible refine Below.grown ?_ (by assumption) (by first | omega | (simp; omega)) (by simp [Value.ownBlock]; try omega)) | (with_reducible refine below_then ?_ (Aft.below _)) | (with_reducible apply below_then; rotate_left; assumption)))); rw [HT.out]; rintro e wt ⟨rfl, hb_wt⟩; obtain ⟨hc_wt, hf_wt⟩ := bcell hb_wt; have hs_wt := hb_wt.size; (try simp at hs_wt); (try have h1_wt : w.heap.size < wt.heap.size := by omega); (try have h3_wt : w.heap.size < wt.heap.size + 1 := by omega); (try have h4_wt : w.heap.size < wt.heap.size + 1 + 1 := by omega); (try have h5_wt : ¬ w.heap.size = wt.heap.size := by omega); have Z1 : BytesAt wt (some ⟨w.heap.size, 0, none⟩) 48 zs := Z0.below (by (repeat' (first | (with_reducible exact Below.refl _ _) | (with_reducible assumption) | (with_reducible refine below_drewN ?_ _) | (with_reducible refine Below.drew ?_) | ((with_reducible refine Below.alloc ?_ ?_ _); (rotate_left; focus (first | omega | (simp; done) | (simp; omega)))) | ((with_reducible refine Below.setCell ?_ ?_ _); (rotate_left; focus (first | omega | (simp; done) | (simp; omega)))) | (with_reducible refine Below.grown ?_ (by assumption) (by first | omega | (simp; omega)) (by simp [Value.ownBlock]; try omega)) | (with_reducible refine below_then ?_ (Aft.below _)) | (with_reducible apply below_then; rotate_left; assumption)))); have T1 : BytesAt wt (some ⟨w.heap.size + 1, 0, none⟩) 48 (List.replicate 48 0) := T0.below (by (repeat' (first | (with_reducible exact Below.refl _ _) | (with_reducible assumption) | (with_reducible refine below_drewN ?_ _) | (with_reducible refine Below.drew ?_) | ((with_reducible refine Below.alloc ?_ ?_ _); (rotate_left; focus (first | omega | (simp; done) | (simp; omega)))) | ((with_reducible refine Below.setCell ?_ ?_ _); (rotate_left; focus (first | omega | (simp; done) | (simp; omega)))) | (with_reducible refine Below.grown ?_ (by assumption) (by first | omega | (simp; omega)) (by simp [Value.ownBlock]; try omega)) | (with_reducible refine below_then ?_ (Aft.below _)) | (with_reducible apply below_then; rotate_left; assumption)))); have FT1 : ∀ o, wt.frozen? ⟨w.heap.size + 1, o, none⟩ = false := (fun o => (hf_wt _ _ (by omega)).trans (FT o))) | (refine wpList_load_mid (cs := u8s ((zs.set 46 (z / 4 * 4 + n / 256)).set 47 (n % 256))) ?lgd 26 (.tmp 1) ?lho w.heap.size 0 ?lhx _ ?lr und48 ?lhd ?lhi ?_; (case lho => rfl); (case lgd => rfl); (case lhx => rfl); (case lr => (refine BytesAt.range (n := 48) ?_; (repeat (first | (with_reducible assumption) | (with_reducible refine BytesAt.drew ?_) | (with_reducible refine BytesAt.drewN ?_ _) | ((with_reducible refine BytesAt.setOther ?_ ?_); (rotate_left; focus (intro b off e; injection e with e; injection e with e1; omega))) | ((with_reducible refine BytesAt.set ?_ ?_ ?_ ?_); (rotate_left; (focus (omega)); (focus (omega)); (focus (omega)))))))); (case lhd => rfl); (case lhi => (rw [siz48]; simp; exact HL.out.symm)); rw [HS]) | (refine wpList_store_mid (cells := (u8s (sealZ zs)).toArray) ?sgd 26 (.tmp 2) (.tmp 36) ?sho (w.heap.size + 1) 0 ?shx ?shy ?sht ?shi (one_u8s _) ?_; (case sho => rfl); (case sgd => rfl); (case shx => rfl); (case shy => rfl); (case sht => ((have h48 : (u8s (sealZ zs)).toArray.size = 48 := by (simp; rw [sealZ_len]; exact HL.out)); rw [h48]; refine BytesAt.thereAt (zs := List.replicate 48 0) ?_ ?_; (focus (repeat (first | (with_reducible assumption) | (with_reducible refine BytesAt.drew ?_) | (with_reducible refine BytesAt.drewN ?_ _) | ((with_reducible refine BytesAt.setOther ?_ ?_); (rotate_left; focus (intro b off e; injection e with e; injection e with e1; omega))) | ((with_reducible refine BytesAt.set ?_ ?_ ?_ ?_); (rotate_left; (focus (omega)); (focus (omega)); (focus (omega))))))); (focus (intro o; (repeat (first | (with_reducible assumption) | (with_reducible refine frozen_drew ?_) | (with_reducible refine frozen_drewN _ ?_) | (with_reducible refine frozen_setCell ?_) | (with_reducible apply_assumption))))))); (case shi => (rw [siz48]; simp; rw [sealZ_len]; exact HL.out.symm))))
      have hlz : (sealZ zs).length = 48 := by rw [sealZ_len]; exact HL.out
      refine bodyPost_ret (results_c1 rfl _ _ rfl (run_loadVar_mid _ _ _ _ (u8s (sealZ zs)) _ (World.rangeAt_setCells_same _ _ _ _ ?_) und48 rfl ?_)) rfl ⟨rfl, ?_⟩
      · rw [show (u8s (sealZ zs)).length = 48 by simp [hlz]]
        refine BytesAt.thereAt (zs := List.replicate 48 0) ?_ ?_
        · (repeat (first | (with_reducible assumption) | (with_reducible refine BytesAt.drew ?_) | (with_reducible refine BytesAt.drewN ?_ _) | ((with_reducible refine BytesAt.setOther ?_ ?_); (rotate_left; focus (intro b off e; injection e with e; injection e with e1; omega))) | ((with_reducible refine BytesAt.set ?_ ?_ ?_ ?_); (rotate_left; (focus (omega)); (focus (omega)); (focus (omega))))))
        · (intro o; (repeat (first | (with_reducible assumption) | (with_reducible refine frozen_drew ?_) | (with_reducible refine frozen_drewN _ ?_) | (with_reducible refine frozen_setCell ?_) | (with_reducible apply_assumption))))
      · rw [siz48]; simp [hlz]
      · refine Below.setCells _ _ ?_ (by omega)
        (repeat' (first | (with_reducible exact Below.refl _ _) | (with_reducible assumption) | (with_reducible refine below_drewN ?_ _) | (with_reducible refine Below.drew ?_) | ((with_reducible refine Below.alloc ?_ ?_ _); (rotate_left; focus (first | omega | (simp; done) | (simp; omega)))) | ((with_reducible refine Below.setCell ?_ ?_ _); (rotate_left; focus (first | omega | (simp; done) | (simp; omega)))) | (with_reducible refine Below.grown ?_ (by assumption) (by first | omega | (simp; omega)) (by simp [Value.ownBlock]; try omega)) | (with_reducible refine below_then ?_ (Aft.below _)) | (with_reducible apply below_then; rotate_left; assumption)))
end Go.Proofs.Ytnjjejhniekdcaa
