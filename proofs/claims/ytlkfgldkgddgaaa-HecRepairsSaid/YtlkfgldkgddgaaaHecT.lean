/- The walk of the law HecTakes. -/
import Derived.Test.YtlkfgldkgddgaaaHecR
import Derived.Test.YtlkfgldkgddgaaaHecA
import Derived.Test.YtlkfgldkgddgaaaOpenF
namespace Go.Proofs.Ytlkfgldkgddgaaa
set_option linter.unusedVariables false
set_option linter.unusedSimpArgs false
open Go.RowKit
set_option maxRecDepth 100000
set_option maxHeartbeats 4000000
theorem takes_len {c : Bool} {zs : List Int} (h : zs.length = 5) : (takes c zs).length = 4 := by
  unfold takes
  split
  · simp [h]
  · split
    · simp [flip_len, h]
    · rfl
theorem takes_four {c : Bool} {zs : List Int} (h : zs.length = 5) : ∃ x y z u, takes c zs = [x, y, z, u] := by
  have h4 := takes_len (c := c) h
  match takes c zs, h4 with
  | [x, y, z, u], _ => exact ⟨x, y, z, u, rfl⟩
theorem takes_B {c : Bool} {zs : List Int} (hb : allB zs) : allB (takes c zs) := by
  unfold takes
  split
  · exact fun z hz => hb z (List.mem_of_mem_take hz)
  · split
    · exact fun z hz => flip_B hb _ z (List.mem_of_mem_take hz)
    · intro z hz; simp at hz; subst hz; unfold isB; omega
theorem oneIf_bd (b : Bool) : 0 ≤ oneIf b ∧ oneIf b ≤ 1 := by cases b <;> decide
attribute [local irreducible] oneIf
theorem five_off {w : World} {b off : Nat} {x y z u v : Int} (hb : b < w.heap.size) (h0 : w.cell? ⟨b, off, none⟩ = some (.int .u8 x)) (h1 : w.cell? ⟨b, off + 1, none⟩ = some (.int .u8 y)) (h2 : w.cell? ⟨b, off + 2, none⟩ = some (.int .u8 z)) (h3 : w.cell? ⟨b, off + 3, none⟩ = some (.int .u8 u)) (h4 : w.cell? ⟨b, off + 4, none⟩ = some (.int .u8 v))
    (hv : ∀ q ∈ [x, y, z, u, v], 0 ≤ q ∧ q < 256) : BytesAt w (some ⟨b, off, none⟩) 5 [x, y, z, u, v] :=
  ⟨rfl, by omega, fun k => by
    match k with
    | 0 => exact hv x (by simp)
    | 1 => exact hv y (by simp)
    | 2 => exact hv z (by simp)
    | 3 => exact hv u (by simp)
    | 4 => exact hv v (by simp)
    | k + 5 => simp,
   fun _ => ⟨b, off, rfl, hb, fun k hk => by
    match k, hk with
    | 0, _ => exact h0
    | 1, _ => exact h1
    | 2, _ => exact h2
    | 3, _ => exact h3
    | 4, _ => exact h4⟩⟩
theorem hecTakes_go (a : Option Addr) (len cap : Nat) (f : Nat → Nat → Int) (w : World) (HA : ArrsAt w a len 5 f) (hlen : len ≤ 100) :
    Calls Try.prog 9 #[.slice a len cap] w fun e w' => e = .returned (.bool true) ∧ Below w.heap.size w w' := by
  have hl : decide ((100 : Int) < len) = false := by simp; omega
  go_enter Try.func9, Try.ntmps9
  go_wp2_with (first | (go_at_call 28; refine (awake03 _).mono ?_; rintro e wa ⟨rfl, hb_wa⟩; obtain ⟨hc_wa, hf_wa⟩ := bcell hb_wa; have hs_wa := hb_wa.size; (try simp at hs_wa); (try have h1_wa : w.heap.size < wa.heap.size := by omega); (try have h3_wa : w.heap.size < wa.heap.size + 1 := by omega); (try have h4_wa : w.heap.size < wa.heap.size + 1 + 1 := by omega); (try have h5_wa : ¬ w.heap.size = wa.heap.size := by omega)))
  have R0 : RecAt ((wa.alloc (.cells #[.int .i64 0, .int .i64 0, .bool false] 48)).alloc (.cells #[.bool false, .int .i64 0, .int .i64 0] 51)) wa.heap.size 0 0 false := RecAt.alloc (heap_alloc_new wa _) _
  have F0 : RefAt ((wa.alloc (.cells #[.int .i64 0, .int .i64 0, .bool false] 48)).alloc (.cells #[.bool false, .int .i64 0, .int .i64 0] 51)) (wa.heap.size + 1) false 0 0 := by
    have := heap_alloc_new (wa.alloc (.cells #[.int .i64 0, .int .i64 0, .bool false] 48)) (.cells #[.bool false, .int .i64 0, .int .i64 0] 51)
    unfold RefAt
    simpa using this
  have B0 : Below w.heap.size w ((wa.alloc (.cells #[.int .i64 0, .int .i64 0, .bool false] 48)).alloc (.cells #[.bool false, .int .i64 0, .int .i64 0] 51)) := by (repeat' (first | (with_reducible exact Below.refl _ _) | (with_reducible assumption) | (with_reducible refine below_drewN ?_ _) | (with_reducible refine Below.drew ?_) | ((with_reducible refine Below.alloc ?_ ?_ _); (rotate_left; focus (first | omega | (simp; done) | (simp; omega)))) | ((with_reducible refine Below.setCell ?_ ?_ _); (rotate_left; focus (first | omega | (simp; done) | (simp; omega)))) | (with_reducible refine Below.grown ?_ (by assumption) (by first | omega | (simp; omega)) (by simp [Value.ownBlock]; try omega)) | (with_reducible refine below_then ?_ (Aft.below _)) | (with_reducible apply below_then; rotate_left; assumption)))
  have hp : w.heap.size ≤ wa.heap.size := hb_wa.size
  obtain ⟨p, hpe⟩ : ∃ p, p = wa.heap.size := ⟨_, rfl⟩
  rw [← hpe] at R0 F0 hp ⊢
  generalize (wa.alloc (.cells #[.int .i64 0, .int .i64 0, .bool false] 48)).alloc (.cells #[.bool false, .int .i64 0, .int .i64 0] 51) = w1 at R0 F0 B0 ⊢
  clear hb_wa hc_wa hf_wa hs_wa hpe
  go_loopw [5, 24] (fun s5 s24 wr => ∃ (i : Nat) (c : Bool) (rep drp : Int), i ≤ len ∧ s24 = .int .i64 i ∧ 0 ≤ rep ∧ rep ≤ i ∧ 0 ≤ drp ∧ drp ≤ i ∧ RecAt wr p rep drp c ∧ RefAt wr (p + 1) c rep drp ∧ Below w.heap.size w wr) (fun s5 s24 wr => len - (intOf s24).toNat)
  case atStart => exact ⟨0, false, 0, 0, by omega, rfl, by omega, by omega, by omega, by omega, R0, F0, B0⟩
  case round =>
    clear R0 F0 B0
    obtain ⟨i, c, rep, drp, hi, rfl, r0, r1, d0, d1, hR, hF, hBw⟩ := hrel
    by_cases hlt : i < len
    · obtain ⟨b, off, rfl, hb, hc⟩ := (HA.below hBw).cells (by omega)
      have hbw : b < w.heap.size := by
        obtain ⟨b', off', e', hb', _⟩ := HA.cells (by omega)
        injection e' with e'; injection e' with e1 e2; subst e1; exact hb'
      have e0 := hc i hlt 0 (by omega)
      have e1 := hc i hlt 1 (by omega)
      have e2 := hc i hlt 2 (by omega)
      have e3 := hc i hlt 3 (by omega)
      have e4 := hc i hlt 4 (by omega)
      simp only [Nat.add_zero, ← Nat.add_assoc] at e0 e1 e2 e3 e4
      have y0 := HA.byte i 0
      have y1 := HA.byte i 1
      have y2 := HA.byte i 2
      have y3 := HA.byte i 3
      have y4 := HA.byte i 4
      generalize f i 0 = x0 at e0 y0
      generalize f i 1 = x1 at e1 y1
      generalize f i 2 = x2 at e2 y2
      generalize f i 3 = x3 at e3 y3
      generalize f i 4 = x4 at e4 y4
      have hv : ∀ q ∈ [x0, x1, x2, x3, x4], 0 ≤ q ∧ q < 256 := by intro q hq; simp at hq; omega
      clear hc y0 y1 y2 y3 y4
      obtain ⟨t0, t1, t2, t3, ht⟩ := takes_four (c := c) (zs := [x0, x1, x2, x3, x4]) rfl
      have hta : agg4 (takes c [x0, x1, x2, x3, x4]) = .agg #[.int .u8 t0, .int .u8 t1, .int .u8 t2, .int .u8 t3] := by rw [ht]; rfl
      have htb : ∀ q ∈ [t0, t1, t2, t3], 0 ≤ q ∧ q < 256 := by rw [← ht]; exact takes_B hv
      have HV := Lib.hid hv
      have Z0 : BytesAt wr (some ⟨b, off + i * 5, none⟩) 5 [x0, x1, x2, x3, x4] := five_off hb e0 e1 e2 e3 e4 hv
      have hbp : b ≠ p := by omega
      have hbq : b ≠ p + 1 := by omega
      go_wp2_with (first | (go_at_call 29; (with_reducible refine (take_any p rep drp c x0 x1 x2 x3 x4 _ hR r0 ?g1 d0 ?g2 hv).mono ?_); (case g1 => omega); (case g2 => omega); rw [hta]; rintro e w2 ⟨rfl, R2, C2⟩; have hs2 := C2.size; have Z2 := Z0.chg C2 (fun b' off' e' => by injection e' with e'; injection e' with e1' e2'; omega); have F2 := hF.other C2 (by omega); have hr2 := R2.lt; have hf2 := F2.lt) | (go_at_call 30; (with_reducible refine (refTake_any (p + 1) rep drp c _ 5 [x0, x1, x2, x3, x4] _ (F2.alloc _) r0 ?g1 d0 ?g2 (Z2.below ?g3) (fun h => nomatch h) (by decide) (by decide) ?g4).mono ?_); (case g1 => omega); (case g2 => omega); (case g3 => (repeat' (first | (with_reducible exact Below.refl _ _) | (with_reducible assumption) | (with_reducible refine below_drewN ?_ _) | (with_reducible refine Below.drew ?_) | ((with_reducible refine Below.alloc ?_ ?_ _); (rotate_left; focus (first | omega | (simp; done) | (simp; omega)))) | ((with_reducible refine Below.setCell ?_ ?_ _); (rotate_left; focus (first | omega | (simp; done) | (simp; omega)))) | (with_reducible refine Below.grown ?_ (by assumption) (by first | omega | (simp; omega)) (by simp [Value.ownBlock]; try omega)) | (with_reducible refine below_then ?_ (Aft.below _)) | (with_reducible apply below_then; rotate_left; assumption)))); (case g4 => (intro b' off' e'; injection e' with e'; injection e' with e1' e2'; omega)); rw [ht]; rintro e w3 ⟨⟨g, cc, rfl, hG⟩, F3, C3⟩))
      have hsw := hBw.size
      have hs3 := C3.size
      (try simp at hs3)
      have T3 : BytesAt w3 (some ⟨w2.heap.size, 0, none⟩) 4 [t0, t1, t2, t3] := four_at (by omega) (C3.cell (by omega) (cell_top rfl rfl)) (C3.cell (by omega) (cell_top rfl rfl)) (C3.cell (by omega) (cell_top rfl rfl)) (C3.cell (by omega) (cell_top rfl rfl)) htb
      have R3 := (R2.alloc (.cells #[.int .u8 t0, .int .u8 t1, .int .u8 t2, .int .u8 t3] 22)).other C3 (by omega)
      have B3 : Below w.heap.size w w3 := by
        refine (hBw.trans (C2.below hp (by omega))).trans (Below.trans ?_ (C3.below (by omega) (by simp; omega)))
        exact (Below.refl _ _).alloc (by omega) _
      have hsame : decide ([t0, t1, t2, t3] = [t0, t1, t2, t3]) = true := decide_eq_true rfl
      obtain ⟨l0, l1, l2, lf⟩ := F3.cells
      generalize drops c [x0, x1, x2, x3, x4] = D at R3 F3 l0 l1 l2 ⊢
      have hb1 := oneIf_bd (fixes c [x0, x1, x2, x3, x4])
      have hb2 := oneIf_bd D
      generalize synd [x0, x1, x2, x3, x4] = sy at R3 F3 l0 l1 l2 ⊢
      obtain ⟨rep', hrep⟩ : ∃ r', r' = rep + oneIf (fixes c [x0, x1, x2, x3, x4]) := ⟨_, rfl⟩
      obtain ⟨drp', hdrp⟩ : ∃ r', r' = drp + oneIf D := ⟨_, rfl⟩
      rw [← hrep] at R3 F3 l1
      rw [← hdrp] at R3 F3 l2
      have HREP := Lib.hid hrep
      have HDRP := Lib.hid hdrp
      have HB1 := Lib.hid hb1
      have HB2 := Lib.hid hb2
      have hz1 : p + 1 < w3.heap.size := by omega
      have hz2 : w2.heap.size < w3.heap.size := by omega
      have hcell := @Aft.cell w3
      clear hrep hdrp hb1 hb2 Z0 Z2 F2 R2 hR hF e0 e1 e2 e3 e4 hta ht htb C2 C3
      refine wp_region_hold (by kernel_rfl) (by kernel_rfl) ?_
      (repeat (go_big_quiet_step ((first | (go_at_call 31; exact aft_of (same_eq (T3.below (Aft.below _)) (hG.below (Aft.below _)) hsame)) | (go_at_call 32; exact aft_same (careful_any _ _ _ _ _ (R3.below (Aft.below _)))) | (go_at_call 33; exact aft_same (repaired_any _ _ _ _ _ (R3.below (Aft.below _)))) | (go_at_call 34; exact aft_same (dropped_any _ _ _ _ _ (R3.below (Aft.below _))))))))
      refine wpQuiet_nil ?_; intro _ hw'; obtain ⟨g, hw''⟩ := hw'; subst hw''; have hg := g.below
      go_wp2
      go_roundw
      case rel =>
        go_light
        have h1 := HREP.out
        have h2 := HDRP.out
        have h3 := HB1.out
        have h4 := HB2.out
        exact ⟨i + 1, (sy != 0), rep', drp', by omega, by go_num, by omega, by omega, by omega, by omega, R3.below hg, F3.below hg, by (repeat' (first | (with_reducible exact Below.refl _ _) | (with_reducible assumption) | (with_reducible refine below_drewN ?_ _) | (with_reducible refine Below.drew ?_) | ((with_reducible refine Below.alloc ?_ ?_ _); (rotate_left; focus (first | omega | (simp; done) | (simp; omega)))) | ((with_reducible refine Below.setCell ?_ ?_ _); (rotate_left; focus (first | omega | (simp; done) | (simp; omega)))) | (with_reducible refine Below.grown ?_ (by assumption) (by first | omega | (simp; omega)) (by simp [Value.ownBlock]; try omega)) | (with_reducible refine below_then ?_ (Aft.below _)) | (with_reducible apply below_then; rotate_left; assumption)))⟩
      case measure => go_light; simp [intOf]; omega
    · go_wp2
      go_ret
      exact ⟨rfl, hBw⟩
theorem hecTakes_any (a : Option Addr) (len capa : Nat) (f : Nat → Nat → Int) (w : World) (HA : len ≤ 100000 → ArrsAt w a len 5 f) :
    Calls Try.prog 9 #[.slice a len capa] w fun e w' => e = .returned (.bool true) ∧ Below w.heap.size w w' := by
  by_cases hl : len ≤ 100
  · exact hecTakes_go a len capa f w (HA (by omega)) hl
  · have h0 : decide ((100 : Int) < len) = true := by simp; omega
    clear HA
    go_enter Try.func9, Try.ntmps9
    go_wp2_with (first | (go_at_call 28; refine (awake03 _).mono ?_; rintro e wa ⟨rfl, hb_wa⟩; obtain ⟨hc_wa, hf_wa⟩ := bcell hb_wa; have hs_wa := hb_wa.size; (try simp at hs_wa); (try have h1_wa : w.heap.size < wa.heap.size := by omega); (try have h3_wa : w.heap.size < wa.heap.size + 1 := by omega); (try have h4_wa : w.heap.size < wa.heap.size + 1 + 1 := by omega); (try have h5_wa : ¬ w.heap.size = wa.heap.size := by omega)))
    go_ret
    exact ⟨rfl, by (repeat' (first | (with_reducible exact Below.refl _ _) | (with_reducible assumption) | (with_reducible refine below_drewN ?_ _) | (with_reducible refine Below.drew ?_) | ((with_reducible refine Below.alloc ?_ ?_ _); (rotate_left; focus (first | omega | (simp; done) | (simp; omega)))) | ((with_reducible refine Below.setCell ?_ ?_ _); (rotate_left; focus (first | omega | (simp; done) | (simp; omega)))) | (with_reducible refine Below.grown ?_ (by assumption) (by first | omega | (simp; omega)) (by simp [Value.ownBlock]; try omega)) | (with_reducible refine below_then ?_ (Aft.below _)) | (with_reducible apply below_then; rotate_left; assumption)))⟩
end Go.Proofs.Ytlkfgldkgddgaaa
