/- From when on a cell passes: a bucket's and a policer's. -/
import Derived.Test.YtndmmhljphlhjaaPolA
import Derived.Test.YtndmmhljphlhjaaRangeIn
namespace Go.Proofs.Ytndmmhljphlhjaa
set_option linter.unusedVariables false
set_option linter.unusedSimpArgs false
open Go.RowKit Go.Shelf
set_option maxRecDepth 100000
set_option maxHeartbeats 4000000
attribute [local go_sem] Oper.semAt_some
def dueB (e n : Int) (a : Bool) : Int := if a = true then max 0 (n - e) else 0
theorem bdue_any (b : Nat) (s e n : Int) (a : Bool) (w : World) (h : BuckAt w b s e n a) (e0 : 0 ≤ e) (e1 : e ≤ 1152921504606846976) (n0 : 0 ≤ n) (n1 : n ≤ 4611686018427387904) :
    Calls Try.prog 57 #[.pointer (some ⟨b, 0, none⟩)] w fun en w' => en = .returned (.int .i64 (dueB e n a)) ∧ ∃ m, w' = w.drewN m := by
  obtain ⟨c0, c1, c2, c3, hf⟩ := h.cells
  cases a
  · go_enter Try.func57, Try.ntmps57
    go_wp2
    go_ret
    exact ⟨ret_int rfl, 0, rfl⟩
  · go_enter Try.func57, Try.ntmps57
    go_wp2
    go_quiet (fail)
    all_goals go_wp2
    all_goals
      go_ret
      refine ⟨ret_int ?_, _, rfl⟩
      unfold dueB
      rw [if_pos rfl]
      omega
theorem bdue_in (l n : Nat) (b : Nat) (s e x : Int) (a : Bool) (w : World) (h : BuckAt w b s e x a) (e0 : 0 ≤ e) (e1 : e ≤ 1152921504606846976) (n0 : 0 ≤ x) (n1 : x ≤ 4611686018427387904) :
    CallsIn (Fence.wide.inRound l) n Try.prog 57 #[.pointer (some ⟨b, 0, none⟩)] w fun en w' => en = .returned (.int .i64 (dueB e x a)) ∧ ∃ m, w' = w.drewN m :=
  (callsIn_wide (n := n)).2 (bdue_any b s e x a w h e0 e1 n0 n1)
def dueF (σ : Bst) (l : List Rs) : Int := l.foldl (fun n r => max n (dueB r.ea (σ r.b).1 (σ r.b).2)) 0
theorem dueF_append (σ : Bst) (l : List Rs) (r : Rs) : dueF σ (l ++ [r]) = max (dueF σ l) (dueB r.ea (σ r.b).1 (σ r.b).2) := by unfold dueF; rw [List.foldl_append]; rfl
theorem due_any {p ra len cap : Nat} {al : Bool} {l : List Rs} {σ : Bst} {c0 c1 c2 c3 : Int} (clp : Int) (z : Bool) (hz : (clp == 0) = z) (w : World) (ok : PolOk p ra len l) (hP : PolAt w p ra len cap al l σ c0 c1 c2 c3) (hM : Bd l σ 4611686018427387904) :
    Calls Try.prog 33 #[.pointer (some ⟨p, 0, none⟩), .int .i64 clp] w fun e w' => e = .returned (.int .i64 (dueF σ (l.filter (fun r => r.asks z)))) ∧ Below w.heap.size w w' := by
  refine (callsIn_wide (n := 9)).1 ?_
  refine callsIn_of_wp_marks Try.func33 rfl trivial ?_ rfl
  refine wpIn_wide.2 ?_
  simp only [Try.ntmps33, List.size_toArray, List.length_cons, List.length_nil, Nat.reduceAdd, Nat.reduceSub, Array.replicate_succ, Array.replicate_zero, List.push_toArray, List.append_toArray, List.nil_append, List.cons_append]
  go_wp2_with (go_at_call 40; refine (asked_any _ _ _).mono ?_; rintro e w1 ⟨rfl, rfl⟩)
  have hBV : Below w.heap.size w (((w.alloc (.cells #[.int .i64 0] 3)).alloc (.cells #[.pointer (some ⟨p, 0, none⟩)] 44)).alloc (.cells #[.int .i64 clp] 3)) := (((Below.refl _ _).alloc (Nat.le_refl _) _).alloc (by simp) _).alloc (by simp; omega) _
  obtain ⟨V, hV⟩ : ∃ V, V = ((w.alloc (.cells #[.int .i64 0] 3)).alloc (.cells #[.pointer (some ⟨p, 0, none⟩)] 44)).alloc (.cells #[.int .i64 clp] 3) := ⟨_, rfl⟩
  have k1 : V.cell? ⟨w.heap.size, 0, none⟩ = some (.int .i64 0) := by rw [hV]; simp [go_sem]
  have z1 : V.frozen? ⟨w.heap.size, 0, none⟩ = false := by rw [hV]; simp [go_sem]
  have k2 : V.cell? ⟨w.heap.size + 1, 0, none⟩ = some (.pointer (some ⟨p, 0, none⟩)) := by rw [hV]; simp [go_sem]
  have k3 : V.cell? ⟨w.heap.size + 1 + 1, 0, none⟩ = some (.int .i64 clp) := by rw [hV]; simp [go_sem]
  have sV : V.heap.size = w.heap.size + 3 := by rw [hV]; simp
  rw [← hV] at hBV ⊢
  clear hV
  have hPV := hP.below hBV
  have hlen := ok.length
  refine (wpIn_wide (n := 9)).1 ?_
  refine wpIn_rangeFunc_ownH rfl (by omega) (gf := 41) (lb := #[.pointer (some ⟨w.heap.size + 1, 0, none⟩), .pointer (some ⟨w.heap.size + 1 + 1, 0, none⟩)]) rfl trivial (enters_of Try.func41 (by kernel_rfl) rfl)
    (asked_stops (Subtype.val : {r // r ∈ l} → Rs) Fence.wide (9 - 1) trivial rfl (by omega) p ra (w.heap.size + 1) (w.heap.size + 1 + 1) len cap clp z hz l.attach (by rw [List.length_attach]; exact hlen) (by have := ok.most; omega) V k2 k3 hPV.cells.2.1
      (fun i x hx => hPV.rules i x.1 (by
        have := congrArg (Option.map Subtype.val) hx
        rw [← List.getElem?_map, List.attach_map_subtype_val] at this
        exact this)))
    Kept.trans (kept_b hPV.rlt (by omega)) (Below.refl _ _) (fun _ => rfl)
    (fun pre Z => Z.cell? ⟨w.heap.size, 0, none⟩ = some (.int .i64 (dueF σ (pre.map Subtype.val))) ∧ Z.frozen? ⟨w.heap.size, 0, none⟩ = false ∧ Below w.heap.size w Z)
    (fun c pre Z => False)
    (fun pre A C row hs hg hr => ⟨cell_kept hs.1 hg (fun r e => (hr r e).2), (frozen_kept hs.1 hg (fun r e => (hr r e).2)).trans hs.2.1, ownFrom_below (Nat.le_refl _) (by omega) () A C row hs.2.2 hg hr⟩)
    (fun c pre A C row hs hg hr => hs)
    ⟨by simpa [dueF] using k1, z1, hBV⟩
    (fun x a' Z => ∃ q, a' = { tmps := #[.pointer (some ⟨p, 0, none⟩), .int .i64 clp, undef, undef, .int .i64 0, .pointer (some ⟨w.heap.size, 0, none⟩), .pointer (some ⟨q, 0, none⟩), .pointer (some ⟨p, 0, none⟩), .bool true, .pointer (some ⟨p, 0, none⟩), .int .i64 clp, .func (.func 41) #[] #[.pointer (some ⟨w.heap.size + 1, 0, none⟩), .pointer (some ⟨w.heap.size + 1 + 1, 0, none⟩)], .agg x.1.val, undef, undef, undef, undef, undef, undef], defers := [] } ∧ w.heap.size < q ∧ Z.cell? ⟨q, 0, none⟩ = some (.int .i64 x.1.st) ∧ Z.cell? ⟨q, 4, none⟩ = some (.iface 40 (.pointer (some ⟨x.1.b, 0, none⟩))))
    (fun x a' _ A C row hs hg hr => by
      obtain ⟨q, he, hq, h0, h4⟩ := hs
      exact ⟨q, he, hq, cell_kept h0 hg (fun r e => (hr r e).2), cell_kept h4 hg (fun r e => (hr r e).2)⟩)
    ?assign ?body ?done ?stop
  case assign =>
    intro l' pre x Z K hi hK
    have b1 : Below Z.heap.size Z (Z.alloc (.cells x.1.val 75)) := (Below.refl _ _).alloc (Nat.le_refl _) _
    have HK := Lib.hid hK
    have HI := Lib.hid hi
    clear hK hi
    gi_wp2
    have hzl : w.heap.size < Z.heap.size := World.block_lt_of_cell? _ _ HI.out.1
    exact HK.out _ _ ⟨b1.size, fun k o _ hk _ => (b1.block k (Array.getElem?_eq_some_iff.1 hk).1).trans hk⟩ (Kept.of b1) ⟨cell_keep b1 HI.out.1, (b1.frozen (p := ⟨w.heap.size, 0, none⟩) hzl).trans HI.out.2.1, HI.out.2.2.trans (b1.mono (by omega))⟩ ⟨Z.heap.size, rfl, hzl, cell_top rfl rfl, cell_top rfl rfl⟩
  case body =>
    rintro l' pre x a' Z hl' ⟨rr, hrec⟩ ⟨hv, hvf, hB⟩ ⟨q, rfl, hq, b0, b4⟩ hlen'
    have hbk := (hP.bucks x.1 x.2).below hB
    have hbd := hM x.1 x.2
    have hsp := ok.span x.1 x.2
    have hany : dueF σ ((pre ++ [x]).map Subtype.val) = max (dueF σ (pre.map Subtype.val)) (dueB x.1.ea (σ x.1.b).1 (σ x.1.b).2) := by rw [List.map_append]; exact dueF_append σ _ _
    have hzl : w.heap.size < Z.heap.size := World.block_lt_of_cell? _ _ hv
    have hql : q < Z.heap.size := World.block_lt_of_cell? _ _ b0
    have hne : ¬ q = w.heap.size := by omega
    obtain ⟨N, hN⟩ : ∃ N, dueF σ (pre.map Subtype.val) = N := ⟨_, rfl⟩
    obtain ⟨D, hD⟩ : ∃ D, dueB x.1.ea (σ x.1.b).1 (σ x.1.b).2 = D := ⟨_, rfl⟩
    rw [hN] at hv hany
    rw [hD] at hany
    have HA := Lib.hid hany
    have HF := Lib.hid hD
    have hf57 : Fence.wide.fn 57 := trivial
    have hbkd : BuckAt Z.drew x.1.b x.1.st x.1.ea (σ x.1.b).1 (σ x.1.b).2 := hbk
    clear hany hN hD hrec
    obtain ⟨⟨st, ea, zz, tg, bb⟩, hx⟩ := x
    simp only at b0 b4 hbk hbd hsp HF hbkd HA
    gi_wp2
    refine wpIn_region_any (by kernel_rfl) ?_
    show wpAnyIn _ _ _ _ _ _ _ _ _ Z.drew
    refine anyIn_two (i := 0) (k := 1) (by kernel_rfl) rfl rfl rfl rfl ?_ ?_
    · gi_wp2
      refine ⟨rfl, ?_⟩
      refine anyIn_one (i := 1) (by kernel_rfl) rfl rfl ?_
      gi_wp2
      refine ⟨rfl, ?_⟩
      refine anyIn_one (i := 2) (by kernel_rfl) rfl rfl ?_
      gi_wp2
      refine ⟨rfl, ?_⟩
      refine anyIn_one (i := 3) (by kernel_rfl) rfl rfl ?_
      gi_wp2_with (gi_at_call 57; (with_reducible refine (bdue_in _ _ _ _ _ _ _ _ hbkd (by omega) (by omega) (by omega) (by omega)).mono ?_); rw [HF.out]; rintro e wf ⟨rfl, m, rfl⟩)
      refine ⟨rfl, ?_⟩
      refine anyIn_one (i := 4) (by kernel_rfl) rfl rfl ?_
      gi_wp2
      all_goals
        refine ⟨rfl, ?_⟩
        refine anyIn_one (i := 5) (by kernel_rfl) rfl rfl ?_
        gi_wp2
        refine ⟨rfl, ?_⟩
        refine ⟨by kernel_rfl, ?_⟩
        gi_wp2
        refine ⟨keeps_set (by omega), kept_set (by have := hP.rlt; omega) (by omega), (cell_set (w := Z.drewN (1 + m)) hv).trans ?_, by rw [World.frozen?_setCell]; exact hvf, (below_drewN hB (1 + m)).setCell (p := ⟨w.heap.size, 0, none⟩) (by simp) _⟩
        rw [HA.out]
        refine congrArg some (congrArg (Value.int .i64) ?_)
        first | omega | (split <;> omega)
    · gi_wp2
      refine ⟨rfl, ?_⟩
      refine anyIn_two (i := 0) (k := 2) (by kernel_rfl) rfl rfl rfl rfl ?_ ?_
      · gi_wp2
        refine ⟨rfl, ?_⟩
        refine anyIn_one (i := 2) (by kernel_rfl) rfl rfl ?_
        gi_wp2
        refine ⟨rfl, ?_⟩
        refine anyIn_one (i := 3) (by kernel_rfl) rfl rfl ?_
        gi_wp2_with (gi_at_call 57; (with_reducible refine (bdue_in _ _ _ _ _ _ _ _ hbkd (by omega) (by omega) (by omega) (by omega)).mono ?_); rw [HF.out]; rintro e wf ⟨rfl, m, rfl⟩)
        refine ⟨rfl, ?_⟩
        refine anyIn_one (i := 4) (by kernel_rfl) rfl rfl ?_
        gi_wp2
        all_goals
          refine ⟨rfl, ?_⟩
          refine anyIn_one (i := 5) (by kernel_rfl) rfl rfl ?_
          gi_wp2
          refine ⟨rfl, ?_⟩
          refine ⟨by kernel_rfl, ?_⟩
          gi_wp2
          refine ⟨keeps_set (by omega), kept_set (by have := hP.rlt; omega) (by omega), (cell_set (w := Z.drewN (1 + m)) hv).trans ?_, by rw [World.frozen?_setCell]; exact hvf, (below_drewN hB (1 + m)).setCell (p := ⟨w.heap.size, 0, none⟩) (by simp) _⟩
          rw [HA.out]
          refine congrArg some (congrArg (Value.int .i64) ?_)
          first | omega | (split <;> omega)
      · gi_wp2
        refine ⟨rfl, ?_⟩
        refine anyIn_two (i := 0) (k := 3) (by kernel_rfl) rfl rfl rfl rfl ?_ ?_
        · gi_wp2
          refine ⟨rfl, ?_⟩
          refine anyIn_one (i := 3) (by kernel_rfl) rfl rfl ?_
          gi_wp2_with (gi_at_call 57; (with_reducible refine (bdue_in _ _ _ _ _ _ _ _ hbkd (by omega) (by omega) (by omega) (by omega)).mono ?_); rw [HF.out]; rintro e wf ⟨rfl, m, rfl⟩)
          refine ⟨rfl, ?_⟩
          refine anyIn_one (i := 4) (by kernel_rfl) rfl rfl ?_
          gi_wp2
          all_goals
            refine ⟨rfl, ?_⟩
            refine anyIn_one (i := 5) (by kernel_rfl) rfl rfl ?_
            gi_wp2
            refine ⟨rfl, ?_⟩
            refine ⟨by kernel_rfl, ?_⟩
            gi_wp2
            refine ⟨keeps_set (by omega), kept_set (by have := hP.rlt; omega) (by omega), (cell_set (w := Z.drewN (1 + m)) hv).trans ?_, by rw [World.frozen?_setCell]; exact hvf, (below_drewN hB (1 + m)).setCell (p := ⟨w.heap.size, 0, none⟩) (by simp) _⟩
            rw [HA.out]
            refine congrArg some (congrArg (Value.int .i64) ?_)
            first | omega | (split <;> omega)
        · gi_wp2_with (gi_at_call 57; (with_reducible refine (bdue_in _ _ _ _ _ _ _ _ hbkd (by omega) (by omega) (by omega) (by omega)).mono ?_); rw [HF.out]; rintro e wf ⟨rfl, m, rfl⟩)
          refine ⟨rfl, ?_⟩
          refine anyIn_one (i := 0) (by kernel_rfl) rfl rfl ?_
          gi_wp2
          refine ⟨rfl, ?_⟩
          refine anyIn_one (i := 4) (by kernel_rfl) rfl rfl ?_
          gi_wp2
          all_goals
            refine ⟨rfl, ?_⟩
            refine anyIn_one (i := 5) (by kernel_rfl) rfl rfl ?_
            gi_wp2
            refine ⟨rfl, ?_⟩
            refine ⟨by kernel_rfl, ?_⟩
            gi_wp2
            refine ⟨keeps_set (by omega), kept_set (by have := hP.rlt; omega) (by omega), (cell_set (w := Z.drewN (1 + m)) hv).trans ?_, by rw [World.frozen?_setCell]; exact hvf, (below_drewN hB (1 + m)).setCell (p := ⟨w.heap.size, 0, none⟩) (by simp) _⟩
            rw [HA.out]
            refine congrArg some (congrArg (Value.int .i64) ?_)
            first | omega | (split <;> omega)
  case done =>
    rintro D ys Z hD rfl ⟨hv, hvf, hB⟩ hK
    have hfa : (l.attach.filter (fun x => x.1.asks z)).map Subtype.val = l.filter (fun r => r.asks z) := filter_attach l (fun r => r.asks z)
    rw [hfa] at hv
    clear hfa
    rename_i Q' K ha
    simp only [Exit.inBlock, Exit.then]
    refine ha _ _ ?_
    go_wp2
    refine ⟨by simp, .inl ⟨_, _, rfl, run_takeDeferred hK, ?_⟩⟩
    exact ⟨_, results_tmp rfl _ _ _, rfl, hB.trans (belowK_b (w := w) (Nat.le_refl _) Z D _ _ (by omega) hK rfl rfl)⟩
  case stop =>
    rintro D c pre Z hD hpre hf hK
    exact hf.elim
end Go.Proofs.Ytndmmhljphlhjaa
