/- The walk of the law CellEmpty. -/
import Derived.Test.YtdlghiekcgplaaaCellK
namespace Go.Proofs.Ytdlghiekcgplaaa
set_option linter.unusedVariables false
set_option linter.unusedSimpArgs false
open Go.RowKit
set_option maxRecDepth 100000
set_option maxHeartbeats 4000000
theorem kind_zero {p c t l : Int} (h : kindZ p c t l = 2 ∨ kindZ p c t l = 3) : p = 0 ∧ c = 0 := by
  unfold kindZ at h
  by_cases h1 : p = 0 ∧ c = 0 ∧ t = 0 ∧ l = 1
  · exact ⟨h1.1, h1.2.1⟩
  · rw [if_neg h1] at h
    by_cases h2 : p = 0 ∧ c = 0 ∧ l = 0
    · exact ⟨h2.1, h2.2.1⟩
    · rw [if_neg h2] at h
      exfalso
      repeat' split at h
      all_goals omega
theorem zero53 {w : World} {cs : Array Value} {E : TypeId} (h : cs = (u8s (List.replicate 53 0)).toArray) : BytesAt (w.alloc (.cells cs E)) (some ⟨w.heap.size, 0, none⟩) 53 (List.replicate 53 0) := by
  have h1 := bytes_topU (w := w) (E := E) (fr := (0, 0)) (List.replicate 53 0) rfl h (fun z hz => by obtain ⟨_, rfl⟩ := List.mem_replicate.1 hz; omega) (by rw [List.length_replicate]; omega)
  rwa [List.length_replicate] at h1
theorem cellEmpty_as (g p c t l : Int) (P : List Value) (w : World) (hP : P.length = 48) {K : Bool} (hk : decide (kindZ p c t l = 2 ∨ kindZ p c t l = 3) = K) :
    Calls Try.prog 30 #[.agg (hdr5 g p c t l ++ P).toArray] w fun e w' => e = .returned (.bool K) ∧ Below w.heap.size w w' := by
  subst hk; exact cellEmpty_any g p c t l P w hP
theorem one_noCell : noCell.toArray.all (·.oneCell') = true := one_cellV _ _ _ _ _ _
theorem size_noCell : noCell.toArray.size = 53 := rfl
theorem parseV_short (a : Option Addr) (len cap : Nat) (B : Value) (nni : Bool) (w : World) (h : len < 53) :
    Calls Try.prog 34 #[.slice a len cap, B, .bool nni] w fun e w' => ∃ X, e = .returned (.tuple #[.agg X, .int .i64 2]) ∧ Hid (X = noCell.toArray) ∧ Below w.heap.size w w' :=
  (cellParse_short a len cap B nni w h).mono fun e w' ⟨he, hb⟩ => ⟨_, he, rfl, hb⟩
theorem parseV_nil (a : Option Addr) (cap : Nat) (zs : List Int) (nni : Bool) (w : World) (hz : BytesAt w a 53 zs) (hc1 : 53 ≤ cap) (hc2 : cap ≤ 9223372036854775807) :
    Calls Try.prog 34 #[.slice a 53 cap, .pointer none, .bool nni] w fun e w' => ∃ X, e = .returned (.tuple #[.agg X, .int .i64 4]) ∧ Hid (X = noCell.toArray) ∧ Below w.heap.size w w' :=
  (cellParse_nil a cap zs nni w hz hc1 hc2).mono fun e w' ⟨he, hb⟩ => ⟨_, he, rfl, hb⟩
theorem lawEmpty_walk (g p c t l : Int) (ps qs : List Int) (w : World) (hlp : ps.length = 48) (hbp : allB ps) (hlq : qs.length = 48) (hbq : allB qs) :
    Calls Try.prog 11 #[.agg #[.int .i64 g, .int .i64 p, .int .i64 c, .int .i64 t, .int .i64 l], .agg (u8s ps).toArray, .agg (u8s qs).toArray] w fun e w' => e = .returned (.bool true) ∧ Below w.heap.size w w' := by
  have hsp : (u8s ps).toArray.size = 48 := by simp [hlp]
  have hsq : (u8s qs).toArray.size = 48 := by simp [hlq]
  obtain ⟨K, hK⟩ : ∃ K, decide (kindZ p c t l = 2 ∨ kindZ p c t l = 3) = K := ⟨_, rfl⟩
  have HK := Lib.hid hK
  clear hK
  go_enter Try.func11, Try.ntmps11
  go_wp2_with (go_at_call 26; refine (awake04 _).mono ?_; rintro e wa ⟨rfl, hb_wa⟩; have hs_wa := hb_wa.size; (try simp at hs_wa))
  have k0 : wa.cell? ⟨w.heap.size, 0, none⟩ = some (.int .i64 g) := by (repeat (first | (with_reducible assumption) | ((with_reducible refine cell_top ?_ rfl); first | (with_reducible rfl) | (simp; done)) | (with_reducible apply cell_drew) | (with_reducible apply cell_drewN) | ((with_reducible apply cell_keep); focus (with_reducible assumption)) | (with_reducible refine cell_keep (Aft.below _) ?_) | (with_reducible apply cell_set) | ((with_reducible apply cell_off); focus (decide)) | ((with_reducible apply cell_beside); focus (first | omega | (simp; done) | (simp; omega))) | ((with_reducible apply cell_under); focus (first | omega | (simp; done) | (simp; omega)))))
  have k1 : wa.cell? ⟨w.heap.size, 1, none⟩ = some (.int .i64 p) := by (repeat (first | (with_reducible assumption) | ((with_reducible refine cell_top ?_ rfl); first | (with_reducible rfl) | (simp; done)) | (with_reducible apply cell_drew) | (with_reducible apply cell_drewN) | ((with_reducible apply cell_keep); focus (with_reducible assumption)) | (with_reducible refine cell_keep (Aft.below _) ?_) | (with_reducible apply cell_set) | ((with_reducible apply cell_off); focus (decide)) | ((with_reducible apply cell_beside); focus (first | omega | (simp; done) | (simp; omega))) | ((with_reducible apply cell_under); focus (first | omega | (simp; done) | (simp; omega)))))
  have k2 : wa.cell? ⟨w.heap.size, 2, none⟩ = some (.int .i64 c) := by (repeat (first | (with_reducible assumption) | ((with_reducible refine cell_top ?_ rfl); first | (with_reducible rfl) | (simp; done)) | (with_reducible apply cell_drew) | (with_reducible apply cell_drewN) | ((with_reducible apply cell_keep); focus (with_reducible assumption)) | (with_reducible refine cell_keep (Aft.below _) ?_) | (with_reducible apply cell_set) | ((with_reducible apply cell_off); focus (decide)) | ((with_reducible apply cell_beside); focus (first | omega | (simp; done) | (simp; omega))) | ((with_reducible apply cell_under); focus (first | omega | (simp; done) | (simp; omega)))))
  have k3 : wa.cell? ⟨w.heap.size, 3, none⟩ = some (.int .i64 t) := by (repeat (first | (with_reducible assumption) | ((with_reducible refine cell_top ?_ rfl); first | (with_reducible rfl) | (simp; done)) | (with_reducible apply cell_drew) | (with_reducible apply cell_drewN) | ((with_reducible apply cell_keep); focus (with_reducible assumption)) | (with_reducible refine cell_keep (Aft.below _) ?_) | (with_reducible apply cell_set) | ((with_reducible apply cell_off); focus (decide)) | ((with_reducible apply cell_beside); focus (first | omega | (simp; done) | (simp; omega))) | ((with_reducible apply cell_under); focus (first | omega | (simp; done) | (simp; omega)))))
  have k4 : wa.cell? ⟨w.heap.size, 4, none⟩ = some (.int .i64 l) := by (repeat (first | (with_reducible assumption) | ((with_reducible refine cell_top ?_ rfl); first | (with_reducible rfl) | (simp; done)) | (with_reducible apply cell_drew) | (with_reducible apply cell_drewN) | ((with_reducible apply cell_keep); focus (with_reducible assumption)) | (with_reducible refine cell_keep (Aft.below _) ?_) | (with_reducible apply cell_set) | ((with_reducible apply cell_off); focus (decide)) | ((with_reducible apply cell_beside); focus (first | omega | (simp; done) | (simp; omega))) | ((with_reducible apply cell_under); focus (first | omega | (simp; done) | (simp; omega)))))
  have P0 : BytesAt wa (some ⟨w.heap.size + 1, 0, none⟩) 48 ps := by
    have h := bytes_topU (w := w.alloc (.cells #[.int .i64 g, .int .i64 p, .int .i64 c, .int .i64 t, .int .i64 l] 23)) (b := w.heap.size + 1) (cs := (u8s ps).toArray) (E := 44) (fr := (0, 0)) ps (by simp) rfl hbp (by omega)
    rw [hlp] at h
    exact (h.below ((Below.refl _ _).alloc (Nat.le_refl _) _)).below hb_wa
  have Q0 : BytesAt wa (some ⟨w.heap.size + 1 + 1, 0, none⟩) 48 qs := by
    have h := bytes_topU (w := (w.alloc (.cells #[.int .i64 g, .int .i64 p, .int .i64 c, .int .i64 t, .int .i64 l] 23)).alloc (.cells (u8s ps).toArray 44)) (b := w.heap.size + 1 + 1) (cs := (u8s qs).toArray) (E := 44) (fr := (0, 0)) qs (by simp) rfl hbq (by omega)
    rw [hlq] at h
    exact h.below hb_wa
  have B0 : Below w.heap.size w wa := by (repeat' (first | (with_reducible exact Below.refl _ _) | (with_reducible assumption) | (with_reducible refine below_drewN ?_ _) | (with_reducible refine Below.drew ?_) | ((with_reducible refine Below.alloc ?_ ?_ _); (rotate_left; focus (first | omega | (simp; done) | (simp; omega)))) | ((with_reducible refine Below.setCell ?_ ?_ _); (rotate_left; focus (first | omega | (simp; done) | (simp; omega)))) | (with_reducible refine Below.grown ?_ (by assumption) (by first | omega | (simp; omega)) (by simp [Value.ownBlock]; try omega)) | (with_reducible refine below_then ?_ (Aft.below _)) | (with_reducible apply below_then; rotate_left; assumption)))
  clear hb_wa
  have z1 : w.heap.size < wa.heap.size := by omega
  have hcell := @Aft.cell wa
  refine wp_region_hold (by kernel_rfl) (by kernel_rfl) ?_
  go_big_quiet_step (fail)
  refine wpQuiet_load48 (zs := ps) rfl rfl rfl hlp ?_ ?_
  · intro w' hw'
    obtain ⟨g, rfl⟩ := hw'
    exact (P0.below (Aft.below g)).range
  refine wpQuiet_build46 (zs := ps) rfl rfl rfl rfl hlp ?_
  simp only [Act.put, List.setIfInBounds_toArray, List.set_cons_succ, List.set_cons_zero]
  go_big_quiet_step ((go_at_call 30; exact aft_of (cellEmpty_as g p c t l (u8s ps) _ (by simp [hlp]) HK.out)))
  go_big_quiet_step (fail)
  refine wpQuiet_load48 (zs := qs) rfl rfl rfl hlq ?_ ?_
  · intro w' hw'
    obtain ⟨g, rfl⟩ := hw'
    exact (Q0.below (Aft.below g)).range
  refine wpQuiet_build46 (zs := qs) rfl rfl rfl rfl hlq ?_
  simp only [Act.put, List.setIfInBounds_toArray, List.set_cons_succ, List.set_cons_zero]
  go_big_quiet_step ((go_at_call 30; exact aft_of (cellEmpty_as g p c t l (u8s qs) _ (by simp [hlq]) HK.out)))
  (repeat (go_big_quiet_step (fail)))
  refine wpQuiet_nil ?_; intro _ hw'; obtain ⟨g_1, hw''⟩ := hw'; subst hw''; have hg := g_1.below
  have hgs := hg.size
  obtain ⟨wg, hwg⟩ : ∃ wg, wg = g_1.w := ⟨_, rfl⟩
  have hg2 : Below wa.heap.size wa wg := by rw [hwg]; exact hg
  have hg3 : wa.heap.size ≤ wg.heap.size := hg2.size
  rw [← hwg]
  clear hsp hsq P0 Q0 hcell hg hgs hwg
  have HKP : Hid (K = true → p = 0 ∧ c = 0) := fun h => kind_zero (by simpa [h] using HK.out)
  cases K with
  | false =>
    go_wp2_with (first | (go_at_call 34; (with_reducible refine (parseV_short none 0 0 (.pointer none) false _ ?cs).mono ?_); (case cs => omega); rintro e wp ⟨X, rfl, HX, hb_wp⟩; have hs_wp := hb_wp.size; have hX53 : X.size = 53 := (by rw [HX.out]; rfl)) | ((with_reducible refine wpList_fill46 X ?_ ?_); (focus (exact ⟨rfl, rfl, hX53, (by rw [HX.out]; exact one_noCell), rfl⟩)); intro W2 hs_W2 hb_W2 hR_W2; clear hR_W2) | ((with_reducible refine wpList_makeB 53 ?_ ?_); (focus (exact ⟨rfl, rfl, by omega⟩)); intro W3 hs_W3 hb_W3 HZ) | (go_at_call 34; (with_reducible refine (parseV_nil (some ⟨W2.heap.size, 0, none⟩) 53 (List.replicate 53 0) true _ HZ (by omega) (by omega)).mono ?_); rintro e wq ⟨Y, rfl, HY, hb_wq⟩; have hs_wq := hb_wq.size; have hY53 : Y.size = 53 := (by rw [HY.out]; rfl)) | ((with_reducible refine wpList_fill46 Y ?_ ?_); (focus (exact ⟨rfl, rfl, hY53, (by rw [HY.out]; exact one_noCell), rfl⟩)); intro W4 hs_W4 hb_W4 hR_W4; clear hR_W4; have hAW4 : Below wa.heap.size wa W4 := (((hg2.trans (hb_wp.mono hg3)).trans (hb_W2.mono (by omega))).trans (hb_W3.mono (by omega))).trans ((hb_wq.mono (by omega)).trans (hb_W4.mono (by omega))); have v1 : W4.cell? ⟨w.heap.size, 1, none⟩ = some (.int .i64 p) := cell_keep hAW4 k1; have v2 : W4.cell? ⟨w.heap.size, 2, none⟩ = some (.int .i64 c) := cell_keep hAW4 k2))
    go_ret
    exact ⟨rfl, B0.trans (hAW4.mono (by omega))⟩
  | true =>
    obtain ⟨rfl, rfl⟩ := HKP.out rfl
    go_wp2_with (first | (go_at_call 34; (with_reducible refine (parseV_short none 0 0 (.pointer none) false _ ?cs).mono ?_); (case cs => omega); rintro e wp ⟨X, rfl, HX, hb_wp⟩; have hs_wp := hb_wp.size; have hX53 : X.size = 53 := (by rw [HX.out]; rfl)) | ((with_reducible refine wpList_fill46 X ?_ ?_); (focus (exact ⟨rfl, rfl, hX53, (by rw [HX.out]; exact one_noCell), rfl⟩)); intro W2 hs_W2 hb_W2 hR_W2; clear hR_W2) | ((with_reducible refine wpList_makeB 53 ?_ ?_); (focus (exact ⟨rfl, rfl, by omega⟩)); intro W3 hs_W3 hb_W3 HZ) | (go_at_call 34; (with_reducible refine (parseV_nil (some ⟨W2.heap.size, 0, none⟩) 53 (List.replicate 53 0) true _ HZ (by omega) (by omega)).mono ?_); rintro e wq ⟨Y, rfl, HY, hb_wq⟩; have hs_wq := hb_wq.size; have hY53 : Y.size = 53 := (by rw [HY.out]; rfl)) | ((with_reducible refine wpList_fill46 Y ?_ ?_); (focus (exact ⟨rfl, rfl, hY53, (by rw [HY.out]; exact one_noCell), rfl⟩)); intro W4 hs_W4 hb_W4 hR_W4; clear hR_W4; have hAW4 : Below wa.heap.size wa W4 := (((hg2.trans (hb_wp.mono hg3)).trans (hb_W2.mono (by omega))).trans (hb_W3.mono (by omega))).trans ((hb_wq.mono (by omega)).trans (hb_W4.mono (by omega))); have v1 : W4.cell? ⟨w.heap.size, 1, none⟩ = some (.int .i64 0) := cell_keep hAW4 k1; have v2 : W4.cell? ⟨w.heap.size, 2, none⟩ = some (.int .i64 0) := cell_keep hAW4 k2))
    go_ret
    exact ⟨rfl, B0.trans (hAW4.mono (by omega))⟩
namespace cellEmpty
theorem cellEmpty_any (g p c t l : Int) (ps qs : List Int) (w : World) (_ : -9223372036854775808 ≤ g) (_ : g ≤ 9223372036854775807) (_ : -9223372036854775808 ≤ p) (_ : p ≤ 9223372036854775807) (_ : -9223372036854775808 ≤ c) (_ : c ≤ 9223372036854775807) (_ : -9223372036854775808 ≤ t) (_ : t ≤ 9223372036854775807) (_ : -9223372036854775808 ≤ l) (_ : l ≤ 9223372036854775807) (hlp : ps.length = 48) (hbp : allB ps) (hlq : qs.length = 48) (hbq : allB qs) :
    Calls Try.prog 11 #[.agg #[.int .i64 g, .int .i64 p, .int .i64 c, .int .i64 t, .int .i64 l], .agg (u8s ps).toArray, .agg (u8s qs).toArray] w fun e w' => e = .returned (.bool true) ∧ Below w.heap.size w w' := lawEmpty_walk g p c t l ps qs w hlp hbp hlq hbq
end cellEmpty
end Go.Proofs.Ytdlghiekcgplaaa
