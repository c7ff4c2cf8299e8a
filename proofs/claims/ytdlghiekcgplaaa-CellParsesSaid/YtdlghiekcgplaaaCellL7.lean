/- The walk of the law CellParses. -/
import Derived.Test.YtdlghiekcgplaaaCellP7
import Derived.Test.YtdlghiekcgplaaaOpenS
namespace Go.Proofs.Ytdlghiekcgplaaa
set_option linter.unusedVariables false
set_option linter.unusedSimpArgs false
open Go.RowKit
set_option maxRecDepth 100000
set_option maxHeartbeats 4000000
theorem wpList_build46z {ops : Array Oper} {rest : List Oper} {a : Act} {w : World} {Q : Exit → Act → World → Prop} {x : Operand} {dst : Option Nat} {ty : TypeId} {pos : String} {after : Array Edge} (X : Array Value) (g p c t l : Int) (hX : Hid (X = (cellV g p c t l (List.replicate 48 0)).toArray)) (h1 : a.eval x = .agg #[.int .i64 g, .int .i64 p, .int .i64 c, .int .i64 t, .int .i64 l])
    (h : wpList Try.prog ops Q rest (a.put dst (.agg X)) w) : wpList Try.prog ops Q (⟨dst, .build 46 #[(0, x)], ty, pos, after, none⟩ :: rest) a w := by
  have hX := hX.out
  subst hX
  refine wpList_run rfl ?_ h
  unfold execOp
  have hb : Try.prog.built 46 [(0, .agg #[.int .i64 g, .int .i64 p, .int .i64 c, .int .i64 t, .int .i64 l])] = some (cellV g p c t l (List.replicate 48 0)).toArray := by kernel_rfl
  have hr := run_build w _ _ _ hb
  simp only [List.map_toArray, List.map_cons, List.map_nil, h1, Sem.run_bind, Sem.run_pure, Result.andThen_ok, hr]
theorem splice_pay {G P C T L : Int} {pay cp : List Int} (hl : pay.length = 48) (h : cp = [] ∧ pay = List.replicate 48 0 ∨ cp = pay) : splice (cellV G P C T L (List.replicate 48 0)) 5 (u8s cp) = cellV G P C T L pay := by
  rcases h with ⟨rfl, rfl⟩ | rfl
  · unfold splice; simp
  · unfold splice
    rw [List.take_append_of_le_length (by simp), List.take_of_length_le (by simp), List.drop_of_length_le (by simp [hl]), List.append_nil]
theorem lawParses_walk (a : Option Addr) (len cap : Nat) (sa : Nat → Option Addr) (sn sc : Nat → Nat) (zf : Nat → List Int) (nni : Bool) (w : World) (HA : SlicesAt w a len sa sn sc zf) (hlen : len ≤ 30) :
    Calls Try.prog 15 #[.slice a len cap, .bool nni] w fun e w' => e = .returned (.bool true) ∧ Below w.heap.size w w' := by
  have hl : decide ((30 : Int) < len) = false := by simp; omega
  go_enter Try.func15, Try.ntmps15
  go_wp2_with (first | (go_at_call 26; refine (awake04 _).mono ?_; rintro e wa ⟨rfl, hb_wa⟩; obtain ⟨hc_wa, hf_wa⟩ := bcell hb_wa; have hs_wa := hb_wa.size; (try simp at hs_wa); (try have h1_wa : w.heap.size < wa.heap.size := by omega); (try have h3_wa : w.heap.size < wa.heap.size + 1 := by omega); (try have h4_wa : w.heap.size < wa.heap.size + 1 + 1 := by omega); (try have h5_wa : ¬ w.heap.size = wa.heap.size := by omega)))
  have R0 : RecAt ((wa.alloc (.cells #[.int .i64 0, .int .i64 0, .bool false] 67)).alloc (.cells #[.bool false, .int .i64 0, .int .i64 0] 72)) wa.heap.size 0 0 false := RecAt.alloc (heap_alloc_new wa _) _
  have F0 : RefAt ((wa.alloc (.cells #[.int .i64 0, .int .i64 0, .bool false] 67)).alloc (.cells #[.bool false, .int .i64 0, .int .i64 0] 72)) (wa.heap.size + 1) false 0 0 := by
    have := heap_alloc_new (wa.alloc (.cells #[.int .i64 0, .int .i64 0, .bool false] 67)) (.cells #[.bool false, .int .i64 0, .int .i64 0] 72)
    unfold RefAt
    simpa using this
  have B0 : Below w.heap.size w ((wa.alloc (.cells #[.int .i64 0, .int .i64 0, .bool false] 67)).alloc (.cells #[.bool false, .int .i64 0, .int .i64 0] 72)) := by (repeat' (first | (with_reducible exact Below.refl _ _) | (with_reducible assumption) | (with_reducible refine below_drewN ?_ _) | (with_reducible refine Below.drew ?_) | ((with_reducible refine Below.alloc ?_ ?_ _); (rotate_left; focus (first | omega | (simp; done) | (simp; omega)))) | ((with_reducible refine Below.setCell ?_ ?_ _); (rotate_left; focus (first | omega | (simp; done) | (simp; omega)))) | (with_reducible refine Below.grown ?_ (by assumption) (by first | omega | (simp; omega)) (by simp [Value.ownBlock]; try omega)) | (with_reducible refine below_then ?_ (Aft.below _)) | (with_reducible apply below_then; rotate_left; assumption)))
  have hp : w.heap.size ≤ wa.heap.size := hb_wa.size
  obtain ⟨p, hpe⟩ : ∃ p, p = wa.heap.size := ⟨_, rfl⟩
  rw [← hpe] at R0 F0 hp ⊢
  generalize (wa.alloc (.cells #[.int .i64 0, .int .i64 0, .bool false] 67)).alloc (.cells #[.bool false, .int .i64 0, .int .i64 0] 72) = w1 at R0 F0 B0 ⊢
  clear hb_wa hc_wa hf_wa hs_wa hpe
  go_loopw [7, 28] (fun s7 s28 wr => ∃ (i : Nat) (c : Bool) (rep drp : Int), i ≤ len ∧ s28 = .int .i64 i ∧ 0 ≤ rep ∧ rep ≤ i ∧ 0 ≤ drp ∧ drp ≤ i ∧ RecAt wr p rep drp c ∧ RefAt wr (p + 1) c rep drp ∧ Below w.heap.size w wr) (fun s7 s28 wr => len - (intOf s28).toNat)
  case atStart => exact ⟨0, false, 0, 0, by omega, rfl, by omega, by omega, by omega, by omega, R0, F0, B0⟩
  case round =>
    clear R0 F0 B0
    obtain ⟨i, c, rep, drp, hi, rfl, r0, r1, d0, d1, hR, hF, hBw⟩ := hrel
    by_cases hlt : i < len
    · obtain ⟨b, off, rfl, hb, hc⟩ := (HA.below hBw).cells (by omega)
      have hbw : b < w.heap.size := by
        obtain ⟨b', off', e', hb', _⟩ := HA.cells (by omega)
        injection e' with e'; injection e' with e1 e2; subst e1; exact hb'
      have e0 := hc i hlt
      obtain ⟨hnc, hcm, hZ, hna⟩ := HA.each i hlt
      generalize sa i = ax at e0 hZ hna
      generalize sn i = n at e0 hZ hnc
      generalize sc i = nc at e0 hnc hcm hna
      generalize zf i = zs at hZ
      clear hc HA
      by_cases hn : n ≤ 100
      · have hn2 : decide ((100 : Int) < n) = false := by simp; omega
        have Z := hZ (by omega)
        clear hZ
        have hzb : allB zs := fun z hz => by
          obtain ⟨k, hk, rfl⟩ := List.getElem_of_mem hz
          have := Z.byte k
          rw [List.getElem?_eq_getElem hk] at this
          exact this
        have hsp : 0 < n → ∀ b' off', ax = some ⟨b', off', none⟩ → b' < w.heap.size := fun h b' off' e => by
          obtain ⟨b2, o2, e2, h2, _⟩ := Z.cells h
          rw [e] at e2; injection e2 with e2; injection e2 with e3 e4; omega
        obtain ⟨c', fr, dr, E, G, P, C, T, L, pay, cp, X, HP⟩ := parses_all nni n zs c Z.length hzb
        have hX : Hid (X = (cellV G P C T L pay).toArray) := HP.cell
        have hsx : X.size = 53 := sizeX hX HP.pay48
        obtain ⟨V, hV⟩ : ∃ V, Hid (V = (cellV G P C T L (List.replicate 48 0)).toArray) := ⟨_, rfl⟩
        have hsv : V.size = 53 := sizeX hV (by simp)
        have hneq : ∀ w, (binOp .neq 46 (.agg X) (.agg X)).run Try.prog w = .ok (.bool false) w := fun w => neq_of (b := true) (eq46_self hX HP.pay48 HP.payB HP.wf.1 HP.wf.2.1 HP.wf.2.2.1 HP.wf.2.2.2.1 HP.wf.2.2.2.2 w)
        have hcp : cp.length ≤ 48 := by
          rcases HP.copied with h | h
          · rw [h.1]; simp
          · rw [h, HP.pay48]; omega
        have hr1 : rep ≤ 1000000 := by omega
        have hd1 : drp ≤ 1000000 := by omega
        have hbp : b ≠ p := by omega
        have hbq : b ≠ p + 1 := by omega
        go_wp2_with (first | (go_at_call 34; (with_reducible refine (HP.one p rep drp ax nc _ hR r0 hr1 d0 hd1 (Z.below hBw) hnc hcm ?nq).mono ?_); (case nq => (intro h b' off' e; have := hsp h b' off' e; omega)); rintro e w2 ⟨rfl, R2, C2⟩; have hs2 := C2.size; have hr2 := R2.lt; have B2 : Below w.heap.size w w2 := chg_back C2 hBw hp hBw.size; have F2 := hF.other C2 (by omega); have hf2 := F2.lt; have e2 := C2.cell hbp e0) | ((with_reducible refine wpList_fill46 (w := w2) X ?_ ?_); (focus (exact ⟨rfl, rfl, hsx, oneX hX, rfl⟩)); intro W3 hs_W3 hb_W3 X_3; have e3 := cell_keep hb_W3 e2; have F3 := F2.below hb_W3; have R3 := R2.below hb_W3; have B3 := B2.trans (hb_W3.mono B2.size)) | (go_at_call 37; (with_reducible refine (HP.two (p + 1) rep drp ax nc _ F3 r0 hr1 d0 hd1 (Z.below B3) hna hnc hcm ?nq2).mono ?_); (case nq2 => (intro h b' off' e; have := hsp h b' off' e; omega)); rintro e w4 ⟨⟨g4, m4, k4, rfl, G4⟩, F4, C4⟩; have hs4 := C4.size; have hf4 := F4.lt; have X_4 := range_chg X_3 C4 (by omega); have R4 := R3.other C4 (by omega); have B4 : Below w.heap.size w w4 := chg_back C4 B3 (by omega) B3.size) | ((with_reducible refine wpList_fill23 (w := w4) #[.int .i64 G, .int .i64 P, .int .i64 C, .int .i64 T, .int .i64 L] ?_ ?_); (focus (exact ⟨rfl, rfl, rfl, one_hdr G P C T L, rfl⟩)); intro W5 hs_W5 hb_W5 H_5; have q0 := H_5 0 _ rfl; have q1 := H_5 1 _ rfl; have q2 := H_5 2 _ rfl; have q3 := H_5 3 _ rfl; have q4 := H_5 4 _ rfl; simp only [Nat.zero_add] at q0 q1 q2 q3 q4; have X_5 := range_below X_4 hb_W5; have G5 := G4.below hb_W5; have B5 := B4.trans (hb_W5.mono B4.size)) | ((with_reducible refine wpList_build46z V G P C T L hV ?_ ?_); (focus rfl)) | ((with_reducible refine wpList_fill46H (w := W5) V ?_ ?_); (focus (exact ⟨rfl, rfl, hsv, oneX hV, rfl⟩)); intro W6 hs_W6 hb_W6 V_6; have G6 := G5.below hb_W6) | ((with_reducible refine wpList_copyPay W5.heap.size g4 m4 k4 cp V W5 ?_ ?_); (focus (exact ⟨rfl, rfl, hsv, V_6, G6, by rw [← G6.length]; exact hcp, hb_W6, Nat.le_refl _⟩)); intro W7 n7 V_7 hb_W7))
        have X_7 : W7.rangeAt W5.heap.size 0 X.toList := by
          have h := V_7.out
          rw [hV.out, List.toList_toArray, splice_pay HP.pay48 HP.copied] at h
          rw [hX.out, List.toList_toArray]
          exact range_heap h
        have Y_7 := range_below X_5 hb_W7
        have R7 := (R4.below hb_W5).below hb_W7
        have F7 := (F4.below hb_W5).below hb_W7
        have B7 := B5.trans (hb_W7.mono B5.size)
        have hfr := HP.fr0
        have hdr := HP.dr0
        obtain ⟨rep', hrep⟩ : ∃ r', r' = rep + fr := ⟨_, rfl⟩
        obtain ⟨drp', hdrp⟩ : ∃ r', r' = drp + dr := ⟨_, rfl⟩
        rw [← hrep] at R7 F7
        rw [← hdrp] at R7 F7
        obtain ⟨l0, l1, l2, lf⟩ := F7.cells
        have hz1 : p + 1 < W7.heap.size := F7.lt
        have HREP : Hid (rep' = rep + fr ∧ drp' = drp + dr ∧ 0 ≤ fr ∧ fr ≤ 1 ∧ 0 ≤ dr ∧ dr ≤ 1) := ⟨hrep, hdrp, hfr.1, hfr.2, hdr.1, hdr.2⟩
        have hcell := @Aft.cell W7
        clear hrep hdrp hfr hdr HP hR hF R2 R3 R4 F2 F3 F4 C2 C4 B2 B3 B4 B5 V_7 V_6 X_3 X_4 X_5 G4 G5 G6 H_5 q0 q1 q2 q3 q4 e0 e2 e3 hs2 hs4 hr2 hf2 hf4 lf hb_W3 hs_W3 hb_W5 hs_W5 hb_W6 hs_W6 hb_W7 Z hzb hsp
        refine wp_region_hold (by kernel_rfl) (by kernel_rfl) ?_
        (refine wpQuiet_load46X X (by simp [Region.wanted, yielded]) ⟨_, rfl, hsx, fun w' hw' => (by obtain ⟨g, rfl⟩ := hw'; exact range_below Y_7 (Aft.below g))⟩ ?_); (simp only [Act.put, List.setIfInBounds_toArray, List.set_cons_succ, List.set_cons_zero])
        (refine wpQuiet_load46X X (by simp [Region.wanted, yielded]) ⟨_, rfl, hsx, fun w' hw' => (by obtain ⟨g, rfl⟩ := hw'; exact range_below X_7 (Aft.below g))⟩ ?_); (simp only [Act.put, List.setIfInBounds_toArray, List.set_cons_succ, List.set_cons_zero])
        (repeat (go_big_quiet_step ((first | (go_at_call 36; exact aft_same (careful_any _ _ _ _ _ (R7.below (Aft.below _)))) | (go_at_call 38; exact aft_same (repaired_any _ _ _ _ _ (R7.below (Aft.below _)))) | (go_at_call 39; exact aft_same (dropped_any _ _ _ _ _ (R7.below (Aft.below _))))))))
        refine wpQuiet_nil ?_; intro _ hw'; obtain ⟨g, hw''⟩ := hw'; subst hw''; have hg := g.below
        go_wp2
        go_roundw
        case rel =>
          go_light
          obtain ⟨h1, h2, h3, h4, h5, h6⟩ := HREP.out
          exact ⟨i + 1, c', rep', drp', by omega, by go_num, by omega, by omega, by omega, by omega, R7.below hg, F7.below hg, B7.trans (hg.mono B7.size)⟩
        case measure => go_light; simp [intOf]; omega
      · have hn2 : decide ((100 : Int) < n) = true := by simp; omega
        go_wp2
        go_ret
        exact ⟨rfl, hBw⟩
    · go_wp2
      go_ret
      exact ⟨rfl, hBw⟩
theorem cellParses_any (a : Option Addr) (len cap : Nat) (sa : Nat → Option Addr) (sn sc : Nat → Nat) (zf : Nat → List Int) (nni : Bool) (w : World) (HA : SlicesAt w a len sa sn sc zf) :
    Calls Try.prog 15 #[.slice a len cap, .bool nni] w fun e w' => e = .returned (.bool true) ∧ Below w.heap.size w w' := by
  by_cases hlen : len ≤ 30
  · exact lawParses_walk a len cap sa sn sc zf nni w HA hlen
  · have hl : decide ((30 : Int) < len) = true := by simp; omega
    clear HA
    go_enter Try.func15, Try.ntmps15
    go_wp2_with (go_at_call 26; refine (awake04 _).mono ?_; rintro e wa ⟨rfl, hb_wa⟩; obtain ⟨hc_wa, hf_wa⟩ := bcell hb_wa; have hs_wa := hb_wa.size; (try simp at hs_wa); (try have h1_wa : w.heap.size < wa.heap.size := by omega); (try have h3_wa : w.heap.size < wa.heap.size + 1 := by omega); (try have h4_wa : w.heap.size < wa.heap.size + 1 + 1 := by omega); (try have h5_wa : ¬ w.heap.size = wa.heap.size := by omega))
    go_ret
    exact ⟨rfl, by (repeat' (first | (with_reducible exact Below.refl _ _) | (with_reducible assumption) | (with_reducible refine below_drewN ?_ _) | (with_reducible refine Below.drew ?_) | ((with_reducible refine Below.alloc ?_ ?_ _); (rotate_left; focus (first | omega | (simp; done) | (simp; omega)))) | ((with_reducible refine Below.setCell ?_ ?_ _); (rotate_left; focus (first | omega | (simp; done) | (simp; omega)))) | (with_reducible refine Below.grown ?_ (by assumption) (by first | omega | (simp; omega)) (by simp [Value.ownBlock]; try omega)) | (with_reducible refine below_then ?_ (Aft.below _)) | (with_reducible apply below_then; rotate_left; assumption)))⟩
end Go.Proofs.Ytdlghiekcgplaaa
