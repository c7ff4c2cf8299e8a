/- police: verdict. -/
import Derived.Test.YtndmmhljphlhjaaPolM
namespace Go.Proofs.Ytndmmhljphlhjaa
set_option linter.unusedVariables false
set_option linter.unusedSimpArgs false
open Go.RowKit Go.Shelf
set_option maxRecDepth 100000
set_option maxHeartbeats 4000000
attribute [local go_sem] Oper.semAt_some
/-- the buckets' states, by their blocks: next, any. -/
abbrev Bst : Type := Nat → Int × Bool
structure PolOk (p ra len : Nat) (l : List Rs) : Prop where
  length : l.length = len
  most : len ≤ 2
  pra : p ≠ ra
  bp : ∀ r ∈ l, r.b ≠ p ∧ r.b ≠ ra
  inj : ∀ r ∈ l, ∀ r' ∈ l, r.b = r'.b → r = r'
  nodup : l.Nodup
  span : ∀ r ∈ l, 1 ≤ r.st ∧ r.st ≤ 1099511627776 ∧ 0 ≤ r.ea ∧ r.ea ≤ 2199023255552
/-- a policer. -/
structure PolAt (w : World) (p ra len cap : Nat) (al : Bool) (l : List Rs) (σ : Bst) (c0 c1 c2 c3 : Int) : Prop where
  row : w.heap[p]? = some (.cells #[.bool al, .slice (some ⟨ra, 0, none⟩) len cap, .int .i64 c0, .int .i64 c1, .int .i64 c2, .int .i64 c3] 71)
  rules : ∀ i r, l[i]? = some r → RsAt w ra i r
  rlt : ra < w.heap.size
  bucks : ∀ r ∈ l, BuckAt w r.b r.st r.ea (σ r.b).1 (σ r.b).2
/-- the states' bound. -/
def Bd (l : List Rs) (σ : Bst) (M : Int) : Prop := ∀ r ∈ l, 0 ≤ (σ r.b).1 ∧ (σ r.b).1 ≤ M
theorem PolAt.below {w w' : World} {p ra len cap : Nat} {al : Bool} {l : List Rs} {σ : Bst} {c0 c1 c2 c3 : Int} (h : PolAt w p ra len cap al l σ c0 c1 c2 c3) (hb : Below w.heap.size w w') : PolAt w' p ra len cap al l σ c0 c1 c2 c3 :=
  ⟨(hb.block p (Array.getElem?_eq_some_iff.1 h.row).1).trans h.row, fun i r hr => (h.rules i r hr).below hb, Nat.lt_of_lt_of_le h.rlt hb.size, fun r hr => (h.bucks r hr).below hb⟩
theorem PolAt.lt {w : World} {p ra len cap : Nat} {al : Bool} {l : List Rs} {σ : Bst} {c0 c1 c2 c3 : Int} (h : PolAt w p ra len cap al l σ c0 c1 c2 c3) : p < w.heap.size := (Array.getElem?_eq_some_iff.1 h.row).1
theorem PolAt.cells {w : World} {p ra len cap : Nat} {al : Bool} {l : List Rs} {σ : Bst} {c0 c1 c2 c3 : Int} (h : PolAt w p ra len cap al l σ c0 c1 c2 c3) :
    w.cell? ⟨p, 0, none⟩ = some (.bool al) ∧ w.cell? ⟨p, 1, none⟩ = some (.slice (some ⟨ra, 0, none⟩) len cap) ∧ w.cell? ⟨p, 2, none⟩ = some (.int .i64 c0) ∧ w.cell? ⟨p, 3, none⟩ = some (.int .i64 c1) ∧ w.cell? ⟨p, 4, none⟩ = some (.int .i64 c2) ∧ w.cell? ⟨p, 5, none⟩ = some (.int .i64 c3) ∧ ∀ o, w.frozen? ⟨p, o, none⟩ = false := by
  refine ⟨?_, ?_, ?_, ?_, ?_, ?_, fun o => frozen_of_row w p o _ _ h.row⟩ <;> rw [cell_of_row w p _ _ _ _ h.row] <;> rfl
def fitR (σ : Bst) (t : Int) (r : Rs) : Bool := fitsB r.ea (σ r.b).1 (σ r.b).2 t
def badR (σ : Bst) (t : Int) (r : Rs) : Bool := !fitR σ t r && !r.tag
def verdZ (l : List Rs) (σ : Bst) (t : Int) (z : Bool) : Int :=
  if (l.filter (fun r => r.asks z)).any (badR σ t) then 3 else if (l.filter (fun r => r.asks z)).any (fun r => !fitR σ t r) then 2 else 1
theorem filter_attach (l : List Rs) (f : Rs → Bool) : (l.attach.filter (fun x => f x.1)).map Subtype.val = l.filter f := by
  have h := List.filter_map (p := f) (f := Subtype.val) (l := l.attach)
  rw [List.attach_map_subtype_val] at h
  exact h.symm
theorem meth_fits (n : Nat) (a : Option Addr) (w : World) : (Go.method (n + 1) 40 (.pointer a) "Fits").run Try.prog w = .ok (38, .pointer a) w := by kernel_rfl
theorem meth_take (n : Nat) (a : Option Addr) (w : World) : (Go.method (n + 1) 40 (.pointer a) "Take").run Try.prog w = .ok (26, .pointer a) w := by kernel_rfl
theorem meth_due (n : Nat) (a : Option Addr) (w : World) : (Go.method (n + 1) 40 (.pointer a) "Due").run Try.prog w = .ok (57, .pointer a) w := by kernel_rfl
theorem wide_fn (f : FuncId) : Fence.wide.fn f = True := rfl
theorem wide_depth : Fence.wide.depth = none := rfl
attribute [go_sem] meth_fits meth_take meth_due wide_fn wide_depth
theorem fits_in (l n : Nat) (b : Nat) (s e x : Int) (a : Bool) (t : Int) (w : World) (h : BuckAt w b s e x a) (e0 : 0 ≤ e) (e1 : e ≤ 1152921504606846976) (n0 : 0 ≤ x) (n1 : x ≤ 4611686018427387904) :
    CallsIn (Fence.wide.inRound l) n Try.prog 38 #[.pointer (some ⟨b, 0, none⟩), .int .i64 t] w fun en w' => en = .returned (.bool (fitsB e x a t)) ∧ ∃ m, w' = w.drewN m :=
  (callsIn_wide (n := n)).2 (fits_any b s e x a t w h e0 e1 n0 n1)
theorem keeps_drew {B m : Nat} {Z : World} : KeepsFrom B Z (Z.drewN m) := ⟨Nat.le_refl _, fun _ _ _ h _ => h⟩
theorem kept_drew {g g' m : Nat} {Z : World} : Kept g g' Z (Z.drewN m) := ⟨Nat.le_refl _, fun _ _ _ => rfl⟩
theorem keeps_set {B b m : Nat} {Z : World} {v : Value} (hb : b < B) : KeepsFrom B Z ((Z.drewN m).setCell ⟨b, 0, none⟩ v) :=
  keeps_drew.trans (KeepsFrom.of_grownBy (grownBy_setCell' _ b v) (fun j e => by injection e with e; omega))
theorem kept_set {g g' b m : Nat} {Z : World} {v : Value} (h1 : g ≠ b) (h2 : g' ≠ b) : Kept g g' Z ((Z.drewN m).setCell ⟨b, 0, none⟩ v) :=
  kept_drew.trans ⟨by simp, fun k hk hl => (grownBy_setCell' (Z.drewN m) b v).block k hl (fun e => by injection e with e; omega)⟩
theorem verdict_any {p ra len cap : Nat} {al : Bool} {l : List Rs} {σ : Bst} {c0 c1 c2 c3 : Int} (t clp : Int) (z : Bool) (hz : (clp == 0) = z) (w : World) (ok : PolOk p ra len l) (hP : PolAt w p ra len cap al l σ c0 c1 c2 c3) (hM : Bd l σ 4611686018427387904) :
    Calls Try.prog 39 #[.pointer (some ⟨p, 0, none⟩), .int .i64 t, .int .i64 clp] w fun e w' => e = .returned (.int .i64 (verdZ l σ t z)) ∧ Below w.heap.size w w' := by
  refine (callsIn_wide (n := 9)).1 ?_
  refine callsIn_of_wp_marks Try.func39 rfl trivial ?_ rfl
  refine wpIn_wide.2 ?_
  simp only [Try.ntmps39, List.size_toArray, List.length_cons, List.length_nil, Nat.reduceAdd, Nat.reduceSub, Array.replicate_succ, Array.replicate_zero, List.push_toArray, List.append_toArray, List.nil_append, List.cons_append]
  go_wp2
  go_step3
  go_wp2
  go_step3
  go_wp2_with (go_at_call 40; refine (asked_any _ _ _).mono ?_; rintro e w1 ⟨rfl, rfl⟩)
  have hBV : Below w.heap.size w ((((w.alloc (.cells #[.int .i64 t] 3)).alloc (.cells #[.int .i64 1] 3)).alloc (.cells #[.pointer (some ⟨p, 0, none⟩)] 44)).alloc (.cells #[.int .i64 clp] 3)) := ((((Below.refl _ _).alloc (Nat.le_refl _) _).alloc (by simp) _).alloc (by simp; omega) _).alloc (by simp; omega) _
  obtain ⟨V, hV⟩ : ∃ V, V = (((w.alloc (.cells #[.int .i64 t] 3)).alloc (.cells #[.int .i64 1] 3)).alloc (.cells #[.pointer (some ⟨p, 0, none⟩)] 44)).alloc (.cells #[.int .i64 clp] 3) := ⟨_, rfl⟩
  have k0 : V.cell? ⟨w.heap.size, 0, none⟩ = some (.int .i64 t) := by rw [hV]; simp [go_sem]
  have k1 : V.cell? ⟨w.heap.size + 1, 0, none⟩ = some (.int .i64 1) := by rw [hV]; simp [go_sem]
  have z1 : V.frozen? ⟨w.heap.size + 1, 0, none⟩ = false := by rw [hV]; simp [go_sem]
  have k2 : V.cell? ⟨w.heap.size + 1 + 1, 0, none⟩ = some (.pointer (some ⟨p, 0, none⟩)) := by rw [hV]; simp [go_sem]
  have k3 : V.cell? ⟨w.heap.size + 1 + 1 + 1, 0, none⟩ = some (.int .i64 clp) := by rw [hV]; simp [go_sem]
  have sV : V.heap.size = w.heap.size + 4 := by rw [hV]; simp
  rw [← hV] at hBV ⊢
  clear hV
  have hPV := hP.below hBV
  have hlen := ok.length
  refine (wpIn_wide (n := 9)).1 ?_
  refine wpIn_rangeFunc_ownH rfl (by omega) (gf := 41) (lb := #[.pointer (some ⟨w.heap.size + 1 + 1, 0, none⟩), .pointer (some ⟨w.heap.size + 1 + 1 + 1, 0, none⟩)]) rfl trivial (enters_of Try.func41 (by kernel_rfl) rfl)
    (asked_stops (Subtype.val : {r // r ∈ l} → Rs) Fence.wide (9 - 1) trivial rfl (by omega) p ra (w.heap.size + 1 + 1) (w.heap.size + 1 + 1 + 1) len cap clp z hz l.attach (by rw [List.length_attach]; exact hlen) (by have := ok.most; omega) V k2 k3 hPV.cells.2.1
      (fun i x hx => hPV.rules i x.1 (by
        have := congrArg (Option.map Subtype.val) hx
        rw [← List.getElem?_map, List.attach_map_subtype_val] at this
        exact this)))
    Kept.trans (kept_b hPV.rlt (by omega)) (Below.refl _ _) (fun _ => rfl)
    (fun pre Z => ((Z.cell? ⟨w.heap.size + 1, 0, none⟩ = some (.int .i64 (if pre.any (fun x => !fitR σ t x.1) then 2 else 1)) ∧ Z.frozen? ⟨w.heap.size + 1, 0, none⟩ = false) ∧ Z.cell? ⟨w.heap.size, 0, none⟩ = some (.int .i64 t)) ∧ pre.any (fun x => badR σ t x.1) = false ∧ Below w.heap.size w Z)
    (fun c pre Z => (c = .exit 0 ∧ (Z.cell? ⟨w.heap.size + 1, 0, none⟩ = some (.int .i64 3) ∧ Z.frozen? ⟨w.heap.size + 1, 0, none⟩ = false)) ∧ pre.any (fun x => badR σ t x.1) = true ∧ Below w.heap.size w Z)
    (fun pre A C row hs hg hr => ⟨⟨⟨cell_kept hs.1.1.1 hg (fun r e => (hr r e).2), (frozen_kept hs.1.1.1 hg (fun r e => (hr r e).2)).trans hs.1.1.2⟩, cell_kept hs.1.2 hg (fun r e => (hr r e).2)⟩, hs.2.1, ownFrom_below (Nat.le_refl _) (by omega) () A C row hs.2.2 hg hr⟩)
    (fun c pre A C row hs hg hr => ⟨⟨hs.1.1, cell_kept hs.1.2.1 hg (fun r e => (hr r e).2), (frozen_kept hs.1.2.1 hg (fun r e => (hr r e).2)).trans hs.1.2.2⟩, hs.2.1, ownFrom_below (Nat.le_refl _) (by omega) () A C row hs.2.2 hg hr⟩)
    ⟨⟨⟨by simpa using k1, z1⟩, k0⟩, rfl, hBV⟩
    (fun x a' Z => ∃ q, a' = { tmps := #[.pointer (some ⟨p, 0, none⟩), .int .i64 t, .int .i64 clp, undef, .pointer (some ⟨w.heap.size, 0, none⟩), undef, .int .i64 0, .pointer (some ⟨w.heap.size + 1, 0, none⟩), .pointer (some ⟨q, 0, none⟩), .pointer (some ⟨p, 0, none⟩), .int .i64 clp, .func (.func 41) #[] #[.pointer (some ⟨w.heap.size + 1 + 1, 0, none⟩), .pointer (some ⟨w.heap.size + 1 + 1 + 1, 0, none⟩)], .agg x.1.val, undef, undef, undef, undef, undef, undef, undef, undef, undef, undef], defers := [] } ∧ w.heap.size + 1 < q ∧ RsAt Z q 0 x.1)
    (fun x a' _ A C row hs hg hr => by
      obtain ⟨q, he, hq, h0, h1, h2, h3, h4⟩ := hs
      exact ⟨q, he, hq, cell_kept h0 hg (fun r e => (hr r e).2), cell_kept h1 hg (fun r e => (hr r e).2), cell_kept h2 hg (fun r e => (hr r e).2), cell_kept h3 hg (fun r e => (hr r e).2), cell_kept h4 hg (fun r e => (hr r e).2)⟩)
    ?assign ?body ?done ?stop
  case assign =>
    intro l' pre x Z K hi hK
    have b1 : Below Z.heap.size Z (Z.alloc (.cells x.1.val 75)) := (Below.refl _ _).alloc (Nat.le_refl _) _
    have HK := Lib.hid hK
    have HI := Lib.hid hi
    clear hK hi
    gi_wp2
    have hzl : w.heap.size + 1 < Z.heap.size := World.block_lt_of_cell? _ _ HI.out.1.1.1
    exact HK.out _ _ ⟨b1.size, fun k o _ hk _ => (b1.block k (Array.getElem?_eq_some_iff.1 hk).1).trans hk⟩ (Kept.of b1) ⟨⟨⟨cell_keep b1 HI.out.1.1.1, (b1.frozen (p := ⟨w.heap.size + 1, 0, none⟩) hzl).trans HI.out.1.1.2⟩, cell_keep b1 HI.out.1.2⟩, HI.out.2.1, HI.out.2.2.trans (b1.mono (by omega))⟩ ⟨Z.heap.size, rfl, hzl, cell_top rfl rfl, cell_top rfl rfl, cell_top rfl rfl, cell_top rfl rfl, cell_top rfl rfl⟩
  case body =>
    rintro l' pre x a' Z hl' ⟨rr, hrec⟩ ⟨⟨⟨hv, hvf⟩, ht⟩, hgood, hB⟩ ⟨q, rfl, hq, b0, b1, b2, b3, b4⟩ hlen'
    have hbk := (hP.bucks x.1 x.2).below hB
    have hbd := hM x.1 x.2
    have hsp := ok.span x.1 x.2
    have hany : (pre ++ [x]).any (fun x => !fitR σ t x.1) = (pre.any (fun x => !fitR σ t x.1) || !fitR σ t x.1) := by rw [List.any_append]; simp
    have hanb : (pre ++ [x]).any (fun x => badR σ t x.1) = badR σ t x.1 := by rw [List.any_append, hgood]; simp
    have hzl : w.heap.size + 1 < Z.heap.size := World.block_lt_of_cell? _ _ hv
    have hql : q < Z.heap.size := World.block_lt_of_cell? _ _ b0
    have hne : ¬ q = w.heap.size + 1 := by omega
    have hne2 : ¬ q = w.heap.size := by omega
    obtain ⟨fv, hfv⟩ : ∃ fv, fitR σ t x.1 = fv := ⟨_, rfl⟩
    rw [hfv] at hany
    have hanb : (pre ++ [x]).any (fun x => badR σ t x.1) = (!fv && !x.1.tag) := by rw [hanb]; unfold badR; rw [hfv]
    have hfv2 : fitsB x.1.ea (σ x.1.b).1 (σ x.1.b).2 t = fv := hfv
    obtain ⟨vv, hvv⟩ : ∃ vv : Int, (if pre.any (fun x => !fitR σ t x.1) then 2 else 1) = vv := ⟨_, rfl⟩
    rw [hvv] at hv
    have HA := Lib.hid hany
    have HB := Lib.hid hanb
    have HF := Lib.hid hfv2
    have HV := Lib.hid hvv
    have HG := Lib.hid hgood
    have hf38 : Fence.wide.fn 38 := trivial
    simp only [Nat.zero_mul, Nat.zero_add] at b0 b1 b2 b3 b4
    clear hany hanb hfv hfv2 hvv hgood hrec
    obtain ⟨⟨st, ea, zz, tg, bb⟩, hx⟩ := x
    simp only at b0 b1 b2 b3 b4 hbk hbd hsp HB HF
    cases fv
    · cases tg
      · gi_wp2_with (gi_at_call 38; (with_reducible refine (fits_in _ _ _ _ _ _ _ t _ hbk (by omega) (by omega) (by omega) (by omega)).mono ?_); rw [HF.out]; rintro e wf ⟨rfl, m, rfl⟩)
        refine ⟨keeps_set (by omega), ⟨rfl, cell_set (w := Z.drewN m) hv, by rw [World.frozen?_setCell]; exact hvf⟩, HB.out, (below_drewN hB m).setCell (p := ⟨w.heap.size + 1, 0, none⟩) (by simp) _⟩
      · gi_wp2_with (gi_at_call 38; (with_reducible refine (fits_in _ _ _ _ _ _ _ t _ hbk (by omega) (by omega) (by omega) (by omega)).mono ?_); rw [HF.out]; rintro e wf ⟨rfl, m, rfl⟩)
        refine ⟨keeps_set (by omega), kept_set (by have := hP.rlt; omega) (by omega), ⟨⟨?_, by rw [World.frozen?_setCell]; exact hvf⟩, cell_beside (w := Z.drewN m) (by omega) ht⟩, HB.out, (below_drewN hB m).setCell (p := ⟨w.heap.size + 1, 0, none⟩) (by simp) _⟩
        rw [HA.out]
        have := cell_set (w := Z.drewN m) (v := .int .i64 2) hv
        simpa using this
    · gi_wp2_with (gi_at_call 38; (with_reducible refine (fits_in _ _ _ _ _ _ _ t _ hbk (by omega) (by omega) (by omega) (by omega)).mono ?_); rw [HF.out]; rintro e wf ⟨rfl, m, rfl⟩)
      refine ⟨keeps_drew, kept_drew, ⟨⟨?_, hvf⟩, ht⟩, by rw [HB.out]; rfl, below_drewN hB m⟩
      rw [HA.out, Bool.not_true, Bool.or_false, HV.out]
      exact hv
  case done =>
    rintro D ys Z hD rfl ⟨⟨⟨hv, hvf⟩, ht⟩, hgood, hB⟩ hK
    have e1 : (l.attach.filter (fun x => x.1.asks z)).any (fun x => badR σ t x.1) = (l.filter (fun r => r.asks z)).any (badR σ t) := by
      rw [← filter_attach, List.any_map]; rfl
    have e2 : (l.attach.filter (fun x => x.1.asks z)).any (fun x => !fitR σ t x.1) = (l.filter (fun r => r.asks z)).any (fun r => !fitR σ t r) := by
      rw [← filter_attach, List.any_map]; rfl
    have hvz : (if (l.attach.filter (fun x => x.1.asks z)).any (fun x => !fitR σ t x.1) then 2 else 1 : Int) = verdZ l σ t z := by
      unfold verdZ
      rw [← e1, hgood, e2]; simp
    rw [hvz] at hv
    clear hvz hgood e1 e2
    go_wp2
    rw [Exit.noGoto_ret]
    refine ⟨by simp, .inl ⟨_, _, rfl, run_takeDeferred hK, ?_⟩⟩
    exact ⟨_, results_tmp rfl _ _ _, rfl, hB.trans (belowK_b (w := w) (Nat.le_refl _) Z D _ _ (by omega) hK rfl rfl)⟩
  case stop =>
    rintro D c pre Z hD hpre ⟨⟨rfl, hv, hvf⟩, hbad, hB⟩ hK
    have hvz : verdZ l σ t z = 3 := by
      unfold verdZ
      rw [if_pos]
      rw [← filter_attach, List.any_map]
      obtain ⟨x, hx, hxb⟩ := List.any_eq_true.1 hbad
      exact List.any_eq_true.2 ⟨x, hpre.subset hx, hxb⟩
    clear hbad hpre
    refine wpIn_wide.2 ?_
    go_wp2
    rw [Exit.noGoto_ret]
    refine ⟨by simp, .inl ⟨_, _, rfl, run_takeDeferred hK, ?_⟩⟩
    refine ⟨_, results_tmp rfl _ _ _, ?_, hB.trans (belowK_b (w := w) (Nat.le_refl _) Z D _ _ (by omega) hK rfl rfl)⟩
    exact ret_int hvz.symm
end Go.Proofs.Ytndmmhljphlhjaa
