/- police: Take. -/
import Derived.Test.YtndmmhljphlhjaaPolV
namespace Go.Proofs.Ytndmmhljphlhjaa
set_option linter.unusedVariables false
set_option linter.unusedSimpArgs false
open Go.RowKit Go.Shelf
set_option maxRecDepth 100000
set_option maxHeartbeats 4000000
attribute [local go_sem] Oper.semAt_some
/-- of what was there, the buckets' blocks (and p) alone may have turned. -/
structure ChgL (s : Nat → Prop) (w w' : World) : Prop where
  os : w'.os = w.os
  tape : w'.tape = w.tape
  output : w'.output = w.output
  size : w.heap.size ≤ w'.heap.size
  block : ∀ k, k < w.heap.size → ¬ s k → w'.heap[k]? = w.heap[k]?
theorem ChgL.refl (s : Nat → Prop) (w : World) : ChgL s w w := ⟨rfl, rfl, rfl, Nat.le_refl _, fun _ _ _ => rfl⟩
theorem ChgL.trans {s : Nat → Prop} {w w1 w2 : World} (h : ChgL s w w1) (k : ChgL s w1 w2) : ChgL s w w2 :=
  ⟨k.os.trans h.os, k.tape.trans h.tape, k.output.trans h.output, Nat.le_trans h.size k.size, fun j hj hn => (k.block j (Nat.lt_of_lt_of_le hj h.size) hn).trans (h.block j hj hn)⟩
theorem ChgL.of {s : Nat → Prop} {w w' : World} (h : Below w.heap.size w w') : ChgL s w w' := ⟨h.os, h.tape, h.output, h.size, fun k hk _ => h.block k hk⟩
theorem ChgL.chg {s : Nat → Prop} {b : Nat} {w w' : World} (h : Chg b w w') (hb : s b) : ChgL s w w' := ⟨h.os, h.tape, h.output, h.size, fun k hk hn => h.block k hk (fun e => hn (e ▸ hb))⟩
theorem ChgL.mono {s s' : Nat → Prop} {w w' : World} (h : ChgL s w w') (hs : ∀ k, s k → s' k) : ChgL s' w w' := ⟨h.os, h.tape, h.output, h.size, fun k hk hn => h.block k hk (fun e => hn (hs k e))⟩
theorem ChgL.below {s : Nat → Prop} {B : Nat} {w w' : World} (h : ChgL s w w') (hs : ∀ k, s k → B ≤ k) (hB : B ≤ w.heap.size) : Below B w w' :=
  ⟨h.os, h.tape, h.output, h.size, fun k hk => h.block k (by omega) (fun e => by have := hs k e; omega)⟩
theorem ChgL.put {s : Nat → Prop} {w A : World} {l : Nat} {o o' : Obj} (h : ChgL s w A) (hl : w.heap.size ≤ l) (hA : A.heap[l]? = some o) : ChgL s w (A.putObj l o') :=
  ⟨h.os, h.tape, h.output, by simpa using h.size, fun k hk hn => (World.putObj_heap_other (by omega)).trans (h.block k hk hn)⟩
theorem ChgL.grown {s : Nat → Prop} {B : Nat} {w A C : World} {row : Option Nat} (h : ChgL s w A) (hB : w.heap.size ≤ B) (hg : A.grownBy C row) (hr : ∀ r, row = some r → B ≤ r ∧ ∃ o : Obj, A.heap[r]? = some o ∧ o.isCells = false) : ChgL s w C := by
  have h0 := (Below.refl 0 A).grown hg (Nat.zero_le _) (fun _ _ => Nat.zero_le _)
  exact ⟨h0.os.trans h.os, h0.tape.trans h.tape, h0.output.trans h.output, Nat.le_trans h.size h0.size, fun k hk hn => (hg.block k (by have := h.size; omega) (fun e => by have := (hr k e.symm).1; omega)).trans (h.block k hk hn)⟩
/-- a bucket takes a cell, if it fits. -/
def tk (t : Int) (σ : Bst) (r : Rs) : Bst := fun b => if b = r.b ∧ fitR σ t r = true then (nextB r.st (σ r.b).1 t, true) else σ b
theorem tk_bd {l : List Rs} {σ : Bst} {M : Int} {p ra len : Nat} (ok : PolOk p ra len l) (h : Bd l σ M) (hM : 1152921504606846976 ≤ M) (t : Int) (r : Rs) (hr : r ∈ l) : Bd l (tk t σ r) (M + 1099511627776) := by
  intro y hy
  have hs := ok.span r hr
  have h1 := h y hy
  have h2 := h r hr
  have hc := clampZ_in (x := t) (lo := 0) (hi := 1152921504606846976) (by omega)
  unfold tk
  split
  · unfold nextB
    show 0 ≤ max (σ r.b).1 (clampZ t 0 1152921504606846976) + r.st ∧ _ ≤ _
    omega
  · show 0 ≤ (σ y.b).1 ∧ (σ y.b).1 ≤ _
    omega
theorem takeY_in (l n : Nat) (b : Nat) (s e x : Int) (a : Bool) (t : Int) (w : World) (h : BuckAt w b s e x a) (e0 : 0 ≤ e) (e1 : e ≤ 1152921504606846976) (n0 : 0 ≤ x) (n1 : x ≤ 4611686018427387904) (s0 : 0 ≤ s) (s1 : s ≤ 1152921504606846976) (hy : fitsB e x a t = true) :
    CallsIn (Fence.wide.inRound l) n Try.prog 26 #[.pointer (some ⟨b, 0, none⟩), .int .i64 t] w fun en w' => en = .returned (.bool true) ∧ BuckAt w' b s e (nextB s x t) true ∧ Chg b w w' :=
  (callsIn_wide (n := n)).2 (take_yes b s e x a t w h e0 e1 n0 n1 s0 s1 hy)
theorem takeN_in (l n : Nat) (b : Nat) (s e x : Int) (a : Bool) (t : Int) (w : World) (h : BuckAt w b s e x a) (e0 : 0 ≤ e) (e1 : e ≤ 1152921504606846976) (n0 : 0 ≤ x) (n1 : x ≤ 4611686018427387904) (hy : fitsB e x a t = false) :
    CallsIn (Fence.wide.inRound l) n Try.prog 26 #[.pointer (some ⟨b, 0, none⟩), .int .i64 t] w fun en w' => en = .returned (.bool false) ∧ ∃ m, w' = w.drewN m :=
  (callsIn_wide (n := n)).2 (take_no b s e x a t w h e0 e1 n0 n1 hy)
def inB (l : List Rs) : Nat → Prop := fun k => ∃ r ∈ l, k = r.b
theorem tk_same {t : Int} {σ : Bst} {r : Rs} (h : fitR σ t r = false) : tk t σ r = σ := by
  funext b; unfold tk; rw [if_neg (by rw [h]; simp)]
theorem buck_tk {l : List Rs} {p ra len : Nat} {t : Int} {σ : Bst} {r : Rs} {w w' : World} (ok : PolOk p ra len l) (hr : r ∈ l) (hf : fitR σ t r = true) (h : ∀ y ∈ l, BuckAt w y.b y.st y.ea (σ y.b).1 (σ y.b).2) (hn : BuckAt w' r.b r.st r.ea (nextB r.st (σ r.b).1 t) true) (hc : Chg r.b w w') :
    ∀ y ∈ l, BuckAt w' y.b y.st y.ea (tk t σ r y.b).1 (tk t σ r y.b).2 := by
  intro y hy
  by_cases e : y.b = r.b
  · obtain rfl := ok.inj y hy r hr e
    unfold tk
    rw [if_pos ⟨rfl, hf⟩]; exact hn
  · unfold tk
    rw [if_neg (fun h => e h.1)]
    exact (h y hy).other hc e
section
variable {w : World} {p ra len cap : Nat} {al : Bool} {l : List Rs} {σ : Bst} {c0 c1 c2 c3 : Int}
theorem PolAt.setAt (ok : PolOk p ra len l) (h : PolAt w p ra len cap al l σ c0 c1 c2 c3) (o : Nat) (x : Int) {d0 d1 d2 d3 : Int} (he : (#[.bool al, .slice (some ⟨ra, 0, none⟩) len cap, .int .i64 c0, .int .i64 c1, .int .i64 c2, .int .i64 c3] : Array Value).setIfInBounds o (.int .i64 x) = #[.bool al, .slice (some ⟨ra, 0, none⟩) len cap, .int .i64 d0, .int .i64 d1, .int .i64 d2, .int .i64 d3]) :
    PolAt (w.setCell ⟨p, o, none⟩ (.int .i64 x)) p ra len cap al l σ d0 d1 d2 d3 := by
  refine ⟨?_, fun i r hr => ?_, by simpa using h.rlt, fun r hr => ?_⟩
  · have := heap_setCell_same w p o _ _ (.int .i64 x) h.row
    rw [← he]; exact this
  · have g := h.rules i r hr
    exact ⟨cell_beside ok.pra g.c0, cell_beside ok.pra g.c1, cell_beside ok.pra g.c2, cell_beside ok.pra g.c3, cell_beside ok.pra g.c4⟩
  · exact (Below.heap_setCell w ⟨p, o, none⟩ _ r.b (ok.bp r hr).1).trans (h.bucks r hr)
theorem PolAt.put (h : PolAt w p ra len cap al l σ c0 c1 c2 c3) {D : Nat} {o : Obj} (h1 : D ≠ p) (h2 : ∀ r ∈ l, D ≠ r.b) (h3 : D ≠ ra) : PolAt (w.putObj D o) p ra len cap al l σ c0 c1 c2 c3 := by
  have k : ∀ j, D ≠ j → (w.putObj D o).heap[j]? = w.heap[j]? := fun j hj => World.putObj_heap_other (fun e => hj e.symm)
  refine ⟨(k p h1).trans h.row, fun i r hr => ?_, by simpa using h.rlt, fun r hr => (k _ (h2 r hr)).trans (h.bucks r hr)⟩
  have g := h.rules i r hr
  exact ⟨(World.cell?_of_block (k ra h3)).trans g.c0, (World.cell?_of_block (k ra h3)).trans g.c1, (World.cell?_of_block (k ra h3)).trans g.c2, (World.cell?_of_block (k ra h3)).trans g.c3, (World.cell?_of_block (k ra h3)).trans g.c4⟩
theorem PolAt.drew (h : PolAt w p ra len cap al l σ c0 c1 c2 c3) : PolAt w.drew p ra len cap al l σ c0 c1 c2 c3 := ⟨h.row, fun i r hr => let g := h.rules i r hr; ⟨g.c0, g.c1, g.c2, g.c3, g.c4⟩, h.rlt, h.bucks⟩
theorem PolAt.step {Z : World} {τ : Bst} (ok : PolOk p ra len l) (h : PolAt w p ra len cap al l σ c0 c1 c2 c3) (hc : ChgL (inB l) w Z) (hb : ∀ y ∈ l, BuckAt Z y.b y.st y.ea (τ y.b).1 (τ y.b).2) : PolAt Z p ra len cap al l τ c0 c1 c2 c3 := by
  have hp : ¬ inB l p := fun ⟨r, hr, e⟩ => (ok.bp r hr).1 e.symm
  have hra : ¬ inB l ra := fun ⟨r, hr, e⟩ => (ok.bp r hr).2 e.symm
  refine ⟨(hc.block p h.lt hp).trans h.row, fun i r hr => ?_, Nat.lt_of_lt_of_le h.rlt hc.size, hb⟩
  have g := h.rules i r hr
  have hk := hc.block ra h.rlt hra
  exact ⟨(World.cell?_of_block hk).trans g.c0, (World.cell?_of_block hk).trans g.c1, (World.cell?_of_block hk).trans g.c2, (World.cell?_of_block hk).trans g.c3, (World.cell?_of_block hk).trans g.c4⟩
end
/-- the last verdict. -/
def finZ (v : Int) (al z : Bool) : Int := if v = 1 ∧ al = true ∧ z = true then 2 else v
/-- the buckets behind a cell. -/
def nxtS (l : List Rs) (σ : Bst) (t v : Int) (z : Bool) : Bst := if v = 3 then σ else (l.filter (fun r => r.asks (if v = 2 then false else z))).foldl (tk t) σ
def hit (v k : Int) : Int := if v = k then 1 else 0
theorem verdZ_ex (l : List Rs) (σ : Bst) (t : Int) (z : Bool) : verdZ l σ t z = 1 ∨ verdZ l σ t z = 2 ∨ verdZ l σ t z = 3 := by
  unfold verdZ; split
  · exact .inr (.inr rfl)
  · split
    · exact .inr (.inl rfl)
    · exact .inl rfl
theorem take3 {p ra len cap : Nat} {al : Bool} {l : List Rs} {σ : Bst} {c0 c1 c2 c3 : Int} (t clp : Int) (z : Bool) (hz : (clp == 0) = z) (w : World) (ok : PolOk p ra len l) (hP : PolAt w p ra len cap al l σ c0 c1 c2 c3) (hM : Bd l σ 2305843009213693952) (b0 : 0 ≤ c0 ∧ c0 ≤ 1000000) (b3 : 0 ≤ c3 ∧ c3 ≤ 1000000) (hv : verdZ l σ t z = 3) :
    Calls Try.prog 29 #[.pointer (some ⟨p, 0, none⟩), .int .i64 t, .int .i64 clp] w fun e w' => e = .returned (.int .i64 3) ∧ PolAt w' p ra len cap al l σ (c0 + 1) c1 c2 (c3 + 1) ∧ ChgL (fun k => k = p ∨ inB l k) w w' := by
  have hM2 : Bd l σ 4611686018427387904 := fun r hr => by have := hM r hr; omega
  have HV := Lib.hid hv
  clear hv
  go_enter Try.func29, Try.ntmps29
  go_wp2_with (go_at_call 39; (with_reducible refine (verdict_any t clp z hz _ ok (hP.below ((Below.refl _ _).alloc (Nat.le_refl _) _)) hM2).mono ?_); rw [HV.out]; rintro e w1 ⟨rfl, hb_w1⟩)
  have hZ := (hP.below ((Below.refl _ _).alloc (Nat.le_refl _) (.cells #[.int .i64 t] 3))).below hb_w1
  have B1 : Below w.heap.size w w1 := ((Below.refl _ _).alloc (Nat.le_refl _) _).trans (hb_w1.mono (by simp))
  have y0 : IntKind.i64.wrap (c0 + 1) = c0 + 1 := IntWalk.i64_in _ (by omega)
  have y3 : IntKind.i64.wrap (c3 + 1) = c3 + 1 := IntWalk.i64_in _ (by omega)
  clear hb_w1 HV hM hM2 hz
  (obtain ⟨w2, hw2⟩ : ∃ w2 : World, w2 = w1.drew := ⟨_, rfl⟩); (have H2 : PolAt w2 p ra len cap al l σ c0 c1 c2 c3 := by rw [hw2]; exact (hZ).drew); (have G2 : Below w1.heap.size w1 w2 := by rw [hw2]; exact (Below.refl _ _).drew); (obtain ⟨d0, d1, d2, d3, d4, d5, df⟩ := H2.cells); (have f2 := df 2); (refine region_tail 8 (by kernel_rfl) (by kernel_rfl) ?_); (rw [← hw2]); (clear hw2); (simp only [List.take_succ_cons, List.take_zero, List.drop_succ_cons, List.drop_zero]); (repeat still_step); (refine wpStill_nil ?_); go_wp2; (have H3 : PolAt (w2.setCell ⟨p, 2, none⟩ (.int .i64 (c0 + 1))) p ra len cap al l σ (c0 + 1) c1 c2 c3 := H2.setAt ok 2 (c0 + 1) rfl); (clear d0 d1 d2 d3 d4 d5 f2 df); (obtain ⟨w3, hw3⟩ : ∃ w3 : World, w3 = (w2.setCell ⟨p, 2, none⟩ (.int .i64 (c0 + 1))) := ⟨_, rfl⟩); (have G3 : ChgL (fun k => k = p ∨ inB l k) w2 w3 := by rw [hw3]; exact ChgL.chg ((Chg.refl p w2).setCell 2 _) (.inl rfl)); (have hW3 := fun (D : Nat) (hDp : D ≠ p) => show w3.heap[D]? = w2.heap[D]? from (by rw [hw3]; exact Below.heap_setCell w2 ⟨p, 2, none⟩ _ D hDp)); (rw [← hw3] at H3 ⊢); (clear hw3); (obtain ⟨w4, hw4⟩ : ∃ w4 : World, w4 = w3.drew := ⟨_, rfl⟩); (have H4 : PolAt w4 p ra len cap al l σ (c0 + 1) c1 c2 c3 := by rw [hw4]; exact H3.drew); (have G4 : Below w3.heap.size w3 w4 := by rw [hw4]; exact (Below.refl _ _).drew); (obtain ⟨d0, d1, d2, d3, d4, d5, df⟩ := H4.cells); (have f3 := df 3); (have f4 := df 4); (have f5 := df 5); (refine region_tail 9 (by kernel_rfl) (by kernel_rfl) ?_); (rw [← hw4]); (clear hw4); (simp only [List.take_succ_cons, List.take_zero, List.drop_succ_cons, List.drop_zero]); (repeat still_step); (refine wpStill_nil ?_); go_wp2
  go_ret
  refine ⟨rfl, H4.setAt ok 5 (c3 + 1) rfl, ?_⟩
  exact ((((ChgL.of B1).trans (ChgL.of G2)).trans G3).trans (ChgL.of G4)).trans (ChgL.chg ((Chg.refl p w4).setCell 5 _) (.inl rfl))
theorem hBW_of {s : Nat → Prop} {w V : World} (h : Below w.heap.size w V) : ChgL s w V := ChgL.of h
theorem take1 {p ra len cap : Nat} {al : Bool} {l : List Rs} {σ : Bst} {c0 c1 c2 c3 : Int} (t clp : Int) (z : Bool) (hz : (clp == 0) = z) (w : World) (ok : PolOk p ra len l) (hP : PolAt w p ra len cap al l σ c0 c1 c2 c3) (hM : Bd l σ 2305843009213693952) (b0 : 0 ≤ c0 ∧ c0 ≤ 1000000) (b1 : 0 ≤ c1 ∧ c1 ≤ 1000000) (b2 : 0 ≤ c2 ∧ c2 ≤ 1000000) (hv : verdZ l σ t z = 1) :
    Calls Try.prog 29 #[.pointer (some ⟨p, 0, none⟩), .int .i64 t, .int .i64 clp] w fun e w' => e = .returned (.int .i64 (finZ 1 al z)) ∧ PolAt w' p ra len cap al l (nxtS l σ t 1 z) (c0 + 1) (c1 + hit (finZ 1 al z) 1) (c2 + hit (finZ 1 al z) 2) c3 ∧ ChgL (fun k => k = p ∨ inB l k) w w' := by
  have hM2 : Bd l σ 4611686018427387904 := fun r hr => by have := hM r hr; omega
  have HV := Lib.hid hv
  have HZ := Lib.hid hz
  clear hv
  refine (callsIn_wide (n := 9)).1 ?_
  refine callsIn_of_wp_marks Try.func29 rfl trivial ?_ rfl
  refine wpIn_wide.2 ?_
  simp only [Try.ntmps29, List.size_toArray, List.length_cons, List.length_nil, Nat.reduceAdd, Nat.reduceSub, Array.replicate_succ, Array.replicate_zero, List.push_toArray, List.append_toArray, List.nil_append, List.cons_append]
  clear hz
  go_wp2_with (first | (go_at_call 39; (with_reducible refine (verdict_any t clp z HZ.out _ ok (hP.below ((Below.refl _ _).alloc (Nat.le_refl _) _)) hM2).mono ?_); rw [HV.out]; rintro e w1 ⟨rfl, hb_w1⟩; have k0 : w1.cell? ⟨w.heap.size, 0, none⟩ = some (.int .i64 t) := cell_keep hb_w1 (cell_top rfl rfl)) | (go_at_call 40; refine (asked_any _ _ _).mono ?_; rintro e w9 ⟨rfl, rfl⟩))
  have hB1 : Below w.heap.size w w1 := ((Below.refl _ _).alloc (Nat.le_refl _) _).trans (hb_w1.mono (by simp))
  have hs1 : w.heap.size < w1.heap.size := World.block_lt_of_cell? _ _ k0
  obtain ⟨V, hV⟩ : ∃ V, V = (w1.alloc (.cells #[.pointer (some ⟨p, 0, none⟩)] 44)).alloc (.cells #[.int .i64 clp] 3) := ⟨_, rfl⟩
  have hBV : Below w1.heap.size w1 V := by rw [hV]; exact ((Below.refl _ _).alloc (Nat.le_refl _) _).alloc (by simp) _
  have k2 : V.cell? ⟨w1.heap.size, 0, none⟩ = some (.pointer (some ⟨p, 0, none⟩)) := by rw [hV]; simp [go_sem]
  have k3 : V.cell? ⟨w1.heap.size + 1, 0, none⟩ = some (.int .i64 clp) := by rw [hV]; simp [go_sem]
  have sV : V.heap.size = w1.heap.size + 2 := by rw [hV]; simp
  rw [← hV]
  clear hV hb_w1
  have hBW : Below w.heap.size w V := hB1.trans (hBV.mono hB1.size)
  have k0 := cell_keep hBV k0
  have hPV := hP.below hBW
  have hlen := ok.length
  have hinV : ∀ k, inB l k → k < w.heap.size := fun k ⟨r, hr, e⟩ => by rw [e]; exact (hP.bucks r hr).lt
  obtain ⟨sg, hsg⟩ : ∃ sg : List {r // r ∈ l} → Bst, sg = fun pre => pre.foldl (fun σ x => tk t σ x.1) σ := ⟨_, rfl⟩
  have sg0 : sg [] = σ := by rw [hsg]; rfl
  have sg1 : ∀ pre x, sg (pre ++ [x]) = tk t (sg pre) x.1 := fun pre x => by rw [hsg]; simp [List.foldl_append]
  have sg2 : sg (l.attach.filter (fun x => x.1.asks z)) = nxtS l σ t 1 z := by
    rw [hsg]
    unfold nxtS
    rw [if_neg (by decide), ← filter_attach, List.foldl_map]
    rfl
  have SG1 := Lib.hid sg1
  have SG2 := Lib.hid sg2
  clear sg1 sg2 hsg
  refine (wpIn_wide (n := 9)).1 ?_
  refine wpIn_rangeFunc_ownH rfl (by omega) (gf := 41) (lb := #[.pointer (some ⟨w1.heap.size, 0, none⟩), .pointer (some ⟨w1.heap.size + 1, 0, none⟩)]) rfl trivial (enters_of Try.func41 (by kernel_rfl) rfl)
    (asked_stops (Subtype.val : {r // r ∈ l} → Rs) Fence.wide (9 - 1) trivial rfl (by omega) p ra w1.heap.size (w1.heap.size + 1) len cap clp z HZ.out l.attach (by rw [List.length_attach]; exact hlen) (by have := ok.most; omega) V k2 k3 hPV.cells.2.1
      (fun i x hx => hPV.rules i x.1 (by
        have := congrArg (Option.map Subtype.val) hx
        rw [← List.getElem?_map, List.attach_map_subtype_val] at this
        exact this)))
    Kept.trans (kept_b hPV.rlt (by omega)) (Below.refl _ _) (fun _ => rfl)
    (fun pre Z => Z.cell? ⟨w.heap.size, 0, none⟩ = some (.int .i64 t) ∧ (∀ y ∈ l, BuckAt Z y.b y.st y.ea (sg pre y.b).1 (sg pre y.b).2) ∧ Bd l (sg pre) (2305843009213693952 + pre.length * 1099511627776) ∧ ChgL (inB l) w Z)
    (fun _ _ _ => False)
    (fun pre A C row hs hg hr => ⟨cell_kept hs.1 hg (fun r e => (hr r e).2), fun y hy => (grownBy_keeps_cells hg (fun r e => (hr r e).2) (hs.2.1 y hy) rfl).trans (hs.2.1 y hy), hs.2.2.1, hs.2.2.2.grown hBW.size hg hr⟩)
    (fun _ _ _ _ _ hs _ _ => hs)
    ⟨k0, fun y hy => by rw [sg0]; exact hPV.bucks y hy, by rw [sg0]; exact fun r hr => by have := hM r hr; simp; omega, hBW_of hBW⟩
    (fun x a' Z => ∃ q, a' = { tmps := #[.pointer (some ⟨p, 0, none⟩), .int .i64 t, .int .i64 clp, undef, .pointer (some ⟨w.heap.size, 0, none⟩), undef, .int .i64 0, .int .i64 1, .int .i64 clp, .pointer (some ⟨q, 0, none⟩), .pointer (some ⟨p, 0, none⟩), .bool false, .pointer (some ⟨p, 0, none⟩), .int .i64 t, .int .i64 clp, .int .i64 1, .int .i64 clp, .int .i64 1, .bool false, .int .i64 1, .bool true, .pointer (some ⟨p, 0, none⟩), .int .i64 clp, .func (.func 41) #[] #[.pointer (some ⟨w1.heap.size, 0, none⟩), .pointer (some ⟨w1.heap.size + 1, 0, none⟩)], .agg x.1.val, undef, undef, undef, undef, undef, undef, undef, undef, undef, undef, undef, undef, undef, undef, undef, undef, undef, undef, undef, undef, undef, undef, undef, undef, undef, undef, undef, undef, undef, undef, undef, undef, undef, undef, undef, undef], defers := [] } ∧ w.heap.size < q ∧ RsAt Z q 0 x.1)
    (fun x a' _ A C row hs hg hr => by
      obtain ⟨q, he, hq, h0, h1, h2, h3, h4⟩ := hs
      exact ⟨q, he, hq, cell_kept h0 hg (fun r e => (hr r e).2), cell_kept h1 hg (fun r e => (hr r e).2), cell_kept h2 hg (fun r e => (hr r e).2), cell_kept h3 hg (fun r e => (hr r e).2), cell_kept h4 hg (fun r e => (hr r e).2)⟩)
    ?assign ?body ?done ?stop
  case assign =>
    intro l' pre x Z K hi hK
    have b1 : Below Z.heap.size Z (Z.alloc (.cells x.1.val 75)) := (Below.refl _ _).alloc (Nat.le_refl _) _
    have HK := Lib.hid hK
    have HI := Lib.hid hi
    clear hK hi
    gi_wp2
    have hzl : w.heap.size < Z.heap.size := World.block_lt_of_cell? _ _ HI.out.1
    exact HK.out _ _ ⟨b1.size, fun k o _ hk _ => (b1.block k (Array.getElem?_eq_some_iff.1 hk).1).trans hk⟩ (Kept.of b1) ⟨cell_keep b1 HI.out.1, fun y hy => (HI.out.2.1 y hy).below b1, HI.out.2.2.1, HI.out.2.2.2.trans (ChgL.of b1)⟩ ⟨Z.heap.size, rfl, hzl, cell_top rfl rfl, cell_top rfl rfl, cell_top rfl rfl, cell_top rfl rfl, cell_top rfl rfl⟩
  case body =>
    rintro l' pre x a' Z hl' ⟨rr, hrec⟩ ⟨ht, hbk, hbd, hch⟩ ⟨q, rfl, hq, d0, d1, d2, d3, d4⟩ hlen'
    have hb := hbk x.1 x.2
    have hbx := hbd x.1 x.2
    have hsp := ok.span x.1 x.2
    have hmost := ok.most
    have hlt : x.1.b < w.heap.size := hinV _ ⟨x.1, x.2, rfl⟩
    have hpl : (pre.length : Int) ≤ 2 := by omega
    have hbd1 := tk_bd ok hbd (by omega) t x.1 x.2
    have hlp : ((pre ++ [x]).length : Int) = pre.length + 1 := by simp
    have hf26 : Fence.wide.fn 26 := trivial
    simp only [Nat.zero_mul, Nat.zero_add] at d0 d1 d2 d3 d4
    have HS := SG1.out pre x
    have HS := Lib.hid HS
    have HBK := Lib.hid hbk
    have HBD := Lib.hid hbd1
    have HLP := Lib.hid hlp
    have hx2 := x.2
    clear hrec hbk hbd hbd1 hlp
    by_cases hf : fitR (sg pre) t x.1 = true
    · have HF := Lib.hid hf
      have hf2 : fitsB x.1.ea (sg pre x.1.b).1 (sg pre x.1.b).2 t = true := hf
      have HF2 := Lib.hid hf2
      clear hf hf2
      gi_wp2_with (gi_at_call 26; (with_reducible refine (takeY_in _ _ _ _ _ _ _ t _ hb (by omega) (by omega) (by omega) (by omega) (by omega) (by omega) HF2.out).mono ?_); rintro e wf ⟨rfl, hbn, hcg⟩)
      refine ⟨⟨hcg.size, fun k o hk ho _ => (hcg.block k (Array.getElem?_eq_some_iff.1 ho).1 (by omega)).trans ho⟩, ⟨hcg.size, fun k hk hl => hcg.block k hl (by have := (ok.bp x.1 x.2).2; omega)⟩, hcg.cell (by omega) ht, ?_, ?_, hch.trans (ChgL.chg hcg ⟨x.1, x.2, rfl⟩)⟩
      · rw [HS.out]; exact buck_tk ok x.2 HF.out HBK.out hbn hcg
      · rw [HS.out, HLP.out, Int.add_mul, ← Int.add_assoc]; exact HBD.out
    · have hf : fitR (sg pre) t x.1 = false := by simpa using hf
      have HF := Lib.hid hf
      have hf2 : fitsB x.1.ea (sg pre x.1.b).1 (sg pre x.1.b).2 t = false := hf
      have HF2 := Lib.hid hf2
      clear hf hf2
      gi_wp2_with (gi_at_call 26; (with_reducible refine (takeN_in _ _ _ _ _ _ _ t _ hb (by omega) (by omega) (by omega) (by omega) HF2.out).mono ?_); rintro e wf ⟨rfl, m, rfl⟩)
      refine ⟨keeps_drew, kept_drew, ht, ?_, ?_, ⟨hch.os, hch.tape, hch.output, hch.size, hch.block⟩⟩
      · rw [HS.out, tk_same HF.out]; exact HBK.out
      · rw [HS.out, HLP.out, Int.add_mul, ← Int.add_assoc]; exact HBD.out
  case done =>
    rintro D ys Z hD rfl ⟨ht, hbk, hbd, hch⟩ hK
    have hbk2 : ∀ y ∈ l, BuckAt Z y.b y.st y.ea (nxtS l σ t 1 z y.b).1 (nxtS l σ t 1 z y.b).2 := by rw [← SG2.out]; exact hbk
    have HPZ := hP.step ok hch hbk2
    obtain ⟨τ, hτ⟩ : ∃ τ, nxtS l σ t 1 z = τ := ⟨_, rfl⟩
    rw [hτ] at HPZ
    have HT := Lib.hid hτ
    clear hτ
    have hcells := HPZ.cells
    have a0 := hcells.1
    have hzc := HZ.out
    have hchp : ChgL (fun k => k = p ∨ inB l k) w Z := hch.mono (fun k h => .inr h)
    have hDp : D ≠ p := by have := hP.lt; have := hBW.size; omega
    have y0 : IntKind.i64.wrap (c0 + 1) = c0 + 1 := IntWalk.i64_in _ (by omega)
    have y1 : IntKind.i64.wrap (c1 + 1) = c1 + 1 := IntWalk.i64_in _ (by omega)
    have y2 : IntKind.i64.wrap (c2 + 1) = c2 + 1 := IntWalk.i64_in _ (by omega)
    have hDl : D < Z.heap.size := (Array.getElem?_eq_some_iff.1 hK).1
    clear hbk hbd hch hbk2 hcells ht k0 k2 k3
    cases al <;> cases z
    · go_wp2
      (obtain ⟨w2, hw2⟩ : ∃ w2 : World, w2 = Z.drew := ⟨_, rfl⟩); (have H2 : PolAt w2 p ra len cap false l τ c0 c1 c2 c3 := by rw [hw2]; exact (HPZ).drew); (have G2 : Below Z.heap.size Z w2 := by rw [hw2]; exact (Below.refl _ _).drew); (obtain ⟨d0, d1, d2, d3, d4, d5, df⟩ := H2.cells); (have f2 := df 2); (refine region_tail 8 (by kernel_rfl) (by kernel_rfl) ?_); (rw [← hw2]); (clear hw2); (simp only [List.take_succ_cons, List.take_zero, List.drop_succ_cons, List.drop_zero]); (repeat still_step); (refine wpStill_nil ?_); go_wp2; (have H3 : PolAt (w2.setCell ⟨p, 2, none⟩ (.int .i64 (c0 + 1))) p ra len cap false l τ (c0 + 1) c1 c2 c3 := H2.setAt ok 2 (c0 + 1) rfl); (clear d0 d1 d2 d3 d4 d5 f2 df); (obtain ⟨w3, hw3⟩ : ∃ w3 : World, w3 = (w2.setCell ⟨p, 2, none⟩ (.int .i64 (c0 + 1))) := ⟨_, rfl⟩); (have G3 : ChgL (fun k => k = p ∨ inB l k) w2 w3 := by rw [hw3]; exact ChgL.chg ((Chg.refl p w2).setCell 2 _) (.inl rfl)); (have hW3 := fun (D : Nat) (hDp : D ≠ p) => show w3.heap[D]? = w2.heap[D]? from (by rw [hw3]; exact Below.heap_setCell w2 ⟨p, 2, none⟩ _ D hDp)); (rw [← hw3] at H3 ⊢); (clear hw3); (obtain ⟨w4, hw4⟩ : ∃ w4 : World, w4 = w3.drew := ⟨_, rfl⟩); (have H4 : PolAt w4 p ra len cap false l τ (c0 + 1) c1 c2 c3 := by rw [hw4]; exact H3.drew); (have G4 : Below w3.heap.size w3 w4 := by rw [hw4]; exact (Below.refl _ _).drew); (obtain ⟨d0, d1, d2, d3, d4, d5, df⟩ := H4.cells); (have f3 := df 3); (have f4 := df 4); (have f5 := df 5); (refine region_tail 9 (by kernel_rfl) (by kernel_rfl) ?_); (rw [← hw4]); (clear hw4); (simp only [List.take_succ_cons, List.take_zero, List.drop_succ_cons, List.drop_zero]); (repeat still_step); (refine wpStill_nil ?_); go_wp2
      (have hpl := H4.lt); (have hK2 : w2.heap[D]? = some (.deferred (some [])) := (G2.block D hDl).trans hK); (have hK3 : w3.heap[D]? = some (.deferred (some [])) := (hW3 D hDp).trans hK2); (have hK4 : w4.heap[D]? = some (.deferred (some [])) := (G4.block D (Array.getElem?_eq_some_iff.1 hK3).1).trans hK3); (have hKf := (Below.heap_setCell w4 ⟨p, 3, none⟩ (.int .i64 (c1 + 1)) D hDp).trans hK4); (refine ⟨by simp, .inl ⟨_, _, rfl, run_takeDeferred hKf, ?_⟩⟩); (refine ⟨_, results_tmp rfl _ _ _, ?_, ?_, ?_⟩); (focus exact rfl)
      · rw [HT.out, show c1 + hit (finZ 1 false false) 1 = c1 + 1 by show c1 + 1 = c1 + 1; omega, show c2 + hit (finZ 1 false false) 2 = c2 by show c2 + 0 = c2; omega]
        exact (H4.setAt ok 3 (c1 + 1) rfl).put (by omega) (fun r hr => by have := hinV r.b ⟨r, hr, rfl⟩; omega) (by have := hP.rlt; omega)
      · exact (((((hchp.trans (ChgL.of G2)).trans G3).trans (ChgL.of G4)).trans (ChgL.chg ((Chg.refl p w4).setCell 3 _) (.inl rfl)))).put (by omega) hKf
    · go_wp2
      (obtain ⟨w2, hw2⟩ : ∃ w2 : World, w2 = Z.drew := ⟨_, rfl⟩); (have H2 : PolAt w2 p ra len cap false l τ c0 c1 c2 c3 := by rw [hw2]; exact (HPZ).drew); (have G2 : Below Z.heap.size Z w2 := by rw [hw2]; exact (Below.refl _ _).drew); (obtain ⟨d0, d1, d2, d3, d4, d5, df⟩ := H2.cells); (have f2 := df 2); (refine region_tail 8 (by kernel_rfl) (by kernel_rfl) ?_); (rw [← hw2]); (clear hw2); (simp only [List.take_succ_cons, List.take_zero, List.drop_succ_cons, List.drop_zero]); (repeat still_step); (refine wpStill_nil ?_); go_wp2; (have H3 : PolAt (w2.setCell ⟨p, 2, none⟩ (.int .i64 (c0 + 1))) p ra len cap false l τ (c0 + 1) c1 c2 c3 := H2.setAt ok 2 (c0 + 1) rfl); (clear d0 d1 d2 d3 d4 d5 f2 df); (obtain ⟨w3, hw3⟩ : ∃ w3 : World, w3 = (w2.setCell ⟨p, 2, none⟩ (.int .i64 (c0 + 1))) := ⟨_, rfl⟩); (have G3 : ChgL (fun k => k = p ∨ inB l k) w2 w3 := by rw [hw3]; exact ChgL.chg ((Chg.refl p w2).setCell 2 _) (.inl rfl)); (have hW3 := fun (D : Nat) (hDp : D ≠ p) => show w3.heap[D]? = w2.heap[D]? from (by rw [hw3]; exact Below.heap_setCell w2 ⟨p, 2, none⟩ _ D hDp)); (rw [← hw3] at H3 ⊢); (clear hw3); (obtain ⟨w4, hw4⟩ : ∃ w4 : World, w4 = w3.drew := ⟨_, rfl⟩); (have H4 : PolAt w4 p ra len cap false l τ (c0 + 1) c1 c2 c3 := by rw [hw4]; exact H3.drew); (have G4 : Below w3.heap.size w3 w4 := by rw [hw4]; exact (Below.refl _ _).drew); (obtain ⟨d0, d1, d2, d3, d4, d5, df⟩ := H4.cells); (have f3 := df 3); (have f4 := df 4); (have f5 := df 5); (refine region_tail 9 (by kernel_rfl) (by kernel_rfl) ?_); (rw [← hw4]); (clear hw4); (simp only [List.take_succ_cons, List.take_zero, List.drop_succ_cons, List.drop_zero]); (repeat still_step); (refine wpStill_nil ?_); go_wp2
      (have hpl := H4.lt); (have hK2 : w2.heap[D]? = some (.deferred (some [])) := (G2.block D hDl).trans hK); (have hK3 : w3.heap[D]? = some (.deferred (some [])) := (hW3 D hDp).trans hK2); (have hK4 : w4.heap[D]? = some (.deferred (some [])) := (G4.block D (Array.getElem?_eq_some_iff.1 hK3).1).trans hK3); (have hKf := (Below.heap_setCell w4 ⟨p, 3, none⟩ (.int .i64 (c1 + 1)) D hDp).trans hK4); (refine ⟨by simp, .inl ⟨_, _, rfl, run_takeDeferred hKf, ?_⟩⟩); (refine ⟨_, results_tmp rfl _ _ _, ?_, ?_, ?_⟩); (focus exact rfl)
      · rw [HT.out, show c1 + hit (finZ 1 false true) 1 = c1 + 1 by show c1 + 1 = c1 + 1; omega, show c2 + hit (finZ 1 false true) 2 = c2 by show c2 + 0 = c2; omega]
        exact (H4.setAt ok 3 (c1 + 1) rfl).put (by omega) (fun r hr => by have := hinV r.b ⟨r, hr, rfl⟩; omega) (by have := hP.rlt; omega)
      · exact (((((hchp.trans (ChgL.of G2)).trans G3).trans (ChgL.of G4)).trans (ChgL.chg ((Chg.refl p w4).setCell 3 _) (.inl rfl)))).put (by omega) hKf
    · go_wp2
      (obtain ⟨w2, hw2⟩ : ∃ w2 : World, w2 = Z.drew := ⟨_, rfl⟩); (have H2 : PolAt w2 p ra len cap true l τ c0 c1 c2 c3 := by rw [hw2]; exact (HPZ).drew); (have G2 : Below Z.heap.size Z w2 := by rw [hw2]; exact (Below.refl _ _).drew); (obtain ⟨d0, d1, d2, d3, d4, d5, df⟩ := H2.cells); (have f2 := df 2); (refine region_tail 8 (by kernel_rfl) (by kernel_rfl) ?_); (rw [← hw2]); (clear hw2); (simp only [List.take_succ_cons, List.take_zero, List.drop_succ_cons, List.drop_zero]); (repeat still_step); (refine wpStill_nil ?_); go_wp2; (have H3 : PolAt (w2.setCell ⟨p, 2, none⟩ (.int .i64 (c0 + 1))) p ra len cap true l τ (c0 + 1) c1 c2 c3 := H2.setAt ok 2 (c0 + 1) rfl); (clear d0 d1 d2 d3 d4 d5 f2 df); (obtain ⟨w3, hw3⟩ : ∃ w3 : World, w3 = (w2.setCell ⟨p, 2, none⟩ (.int .i64 (c0 + 1))) := ⟨_, rfl⟩); (have G3 : ChgL (fun k => k = p ∨ inB l k) w2 w3 := by rw [hw3]; exact ChgL.chg ((Chg.refl p w2).setCell 2 _) (.inl rfl)); (have hW3 := fun (D : Nat) (hDp : D ≠ p) => show w3.heap[D]? = w2.heap[D]? from (by rw [hw3]; exact Below.heap_setCell w2 ⟨p, 2, none⟩ _ D hDp)); (rw [← hw3] at H3 ⊢); (clear hw3); (obtain ⟨w4, hw4⟩ : ∃ w4 : World, w4 = w3.drew := ⟨_, rfl⟩); (have H4 : PolAt w4 p ra len cap true l τ (c0 + 1) c1 c2 c3 := by rw [hw4]; exact H3.drew); (have G4 : Below w3.heap.size w3 w4 := by rw [hw4]; exact (Below.refl _ _).drew); (obtain ⟨d0, d1, d2, d3, d4, d5, df⟩ := H4.cells); (have f3 := df 3); (have f4 := df 4); (have f5 := df 5); (refine region_tail 9 (by kernel_rfl) (by kernel_rfl) ?_); (rw [← hw4]); (clear hw4); (simp only [List.take_succ_cons, List.take_zero, List.drop_succ_cons, List.drop_zero]); (repeat still_step); (refine wpStill_nil ?_); go_wp2
      (have hpl := H4.lt); (have hK2 : w2.heap[D]? = some (.deferred (some [])) := (G2.block D hDl).trans hK); (have hK3 : w3.heap[D]? = some (.deferred (some [])) := (hW3 D hDp).trans hK2); (have hK4 : w4.heap[D]? = some (.deferred (some [])) := (G4.block D (Array.getElem?_eq_some_iff.1 hK3).1).trans hK3); (have hKf := (Below.heap_setCell w4 ⟨p, 3, none⟩ (.int .i64 (c1 + 1)) D hDp).trans hK4); (refine ⟨by simp, .inl ⟨_, _, rfl, run_takeDeferred hKf, ?_⟩⟩); (refine ⟨_, results_tmp rfl _ _ _, ?_, ?_, ?_⟩); (focus exact rfl)
      · rw [HT.out, show c1 + hit (finZ 1 true false) 1 = c1 + 1 by show c1 + 1 = c1 + 1; omega, show c2 + hit (finZ 1 true false) 2 = c2 by show c2 + 0 = c2; omega]
        exact (H4.setAt ok 3 (c1 + 1) rfl).put (by omega) (fun r hr => by have := hinV r.b ⟨r, hr, rfl⟩; omega) (by have := hP.rlt; omega)
      · exact (((((hchp.trans (ChgL.of G2)).trans G3).trans (ChgL.of G4)).trans (ChgL.chg ((Chg.refl p w4).setCell 3 _) (.inl rfl)))).put (by omega) hKf
    · go_wp2
      (obtain ⟨w2, hw2⟩ : ∃ w2 : World, w2 = Z.drew := ⟨_, rfl⟩); (have H2 : PolAt w2 p ra len cap true l τ c0 c1 c2 c3 := by rw [hw2]; exact (HPZ).drew); (have G2 : Below Z.heap.size Z w2 := by rw [hw2]; exact (Below.refl _ _).drew); (obtain ⟨d0, d1, d2, d3, d4, d5, df⟩ := H2.cells); (have f2 := df 2); (refine region_tail 8 (by kernel_rfl) (by kernel_rfl) ?_); (rw [← hw2]); (clear hw2); (simp only [List.take_succ_cons, List.take_zero, List.drop_succ_cons, List.drop_zero]); (repeat still_step); (refine wpStill_nil ?_); go_wp2; (have H3 : PolAt (w2.setCell ⟨p, 2, none⟩ (.int .i64 (c0 + 1))) p ra len cap true l τ (c0 + 1) c1 c2 c3 := H2.setAt ok 2 (c0 + 1) rfl); (clear d0 d1 d2 d3 d4 d5 f2 df); (obtain ⟨w3, hw3⟩ : ∃ w3 : World, w3 = (w2.setCell ⟨p, 2, none⟩ (.int .i64 (c0 + 1))) := ⟨_, rfl⟩); (have G3 : ChgL (fun k => k = p ∨ inB l k) w2 w3 := by rw [hw3]; exact ChgL.chg ((Chg.refl p w2).setCell 2 _) (.inl rfl)); (have hW3 := fun (D : Nat) (hDp : D ≠ p) => show w3.heap[D]? = w2.heap[D]? from (by rw [hw3]; exact Below.heap_setCell w2 ⟨p, 2, none⟩ _ D hDp)); (rw [← hw3] at H3 ⊢); (clear hw3); (obtain ⟨w4, hw4⟩ : ∃ w4 : World, w4 = w3.drew := ⟨_, rfl⟩); (have H4 : PolAt w4 p ra len cap true l τ (c0 + 1) c1 c2 c3 := by rw [hw4]; exact H3.drew); (have G4 : Below w3.heap.size w3 w4 := by rw [hw4]; exact (Below.refl _ _).drew); (obtain ⟨d0, d1, d2, d3, d4, d5, df⟩ := H4.cells); (have f3 := df 3); (have f4 := df 4); (have f5 := df 5); (refine region_tail 9 (by kernel_rfl) (by kernel_rfl) ?_); (rw [← hw4]); (clear hw4); (simp only [List.take_succ_cons, List.take_zero, List.drop_succ_cons, List.drop_zero]); (repeat still_step); (refine wpStill_nil ?_); go_wp2
      (have hpl := H4.lt); (have hK2 : w2.heap[D]? = some (.deferred (some [])) := (G2.block D hDl).trans hK); (have hK3 : w3.heap[D]? = some (.deferred (some [])) := (hW3 D hDp).trans hK2); (have hK4 : w4.heap[D]? = some (.deferred (some [])) := (G4.block D (Array.getElem?_eq_some_iff.1 hK3).1).trans hK3); (have hKf := (Below.heap_setCell w4 ⟨p, 4, none⟩ (.int .i64 (c2 + 1)) D hDp).trans hK4); (refine ⟨by simp, .inl ⟨_, _, rfl, run_takeDeferred hKf, ?_⟩⟩); (refine ⟨_, results_tmp rfl _ _ _, ?_, ?_, ?_⟩); (focus exact rfl)
      · rw [HT.out, show c1 + hit (finZ 1 true true) 1 = c1 by show c1 + 0 = c1; omega, show c2 + hit (finZ 1 true true) 2 = c2 + 1 by show c2 + 1 = c2 + 1; omega]
        exact (H4.setAt ok 4 (c2 + 1) rfl).put (by omega) (fun r hr => by have := hinV r.b ⟨r, hr, rfl⟩; omega) (by have := hP.rlt; omega)
      · exact (((((hchp.trans (ChgL.of G2)).trans G3).trans (ChgL.of G4)).trans (ChgL.chg ((Chg.refl p w4).setCell 4 _) (.inl rfl)))).put (by omega) hKf
  case stop =>
    rintro D c pre Z _ _ hf _
    exact hf.elim
theorem take2 {p ra len cap : Nat} {al : Bool} {l : List Rs} {σ : Bst} {c0 c1 c2 c3 : Int} (t clp : Int) (z : Bool) (hz : (clp == 0) = z) (w : World) (ok : PolOk p ra len l) (hP : PolAt w p ra len cap al l σ c0 c1 c2 c3) (hM : Bd l σ 2305843009213693952) (b0 : 0 ≤ c0 ∧ c0 ≤ 1000000) (b1 : 0 ≤ c1 ∧ c1 ≤ 1000000) (b2 : 0 ≤ c2 ∧ c2 ≤ 1000000) (hv : verdZ l σ t z = 2) :
    Calls Try.prog 29 #[.pointer (some ⟨p, 0, none⟩), .int .i64 t, .int .i64 clp] w fun e w' => e = .returned (.int .i64 (finZ 2 al z)) ∧ PolAt w' p ra len cap al l (nxtS l σ t 2 z) (c0 + 1) (c1 + hit (finZ 2 al z) 1) (c2 + hit (finZ 2 al z) 2) c3 ∧ ChgL (fun k => k = p ∨ inB l k) w w' := by
  have hM2 : Bd l σ 4611686018427387904 := fun r hr => by have := hM r hr; omega
  have HV := Lib.hid hv
  have HZ := Lib.hid hz
  clear hv
  refine (callsIn_wide (n := 9)).1 ?_
  refine callsIn_of_wp_marks Try.func29 rfl trivial ?_ rfl
  refine wpIn_wide.2 ?_
  simp only [Try.ntmps29, List.size_toArray, List.length_cons, List.length_nil, Nat.reduceAdd, Nat.reduceSub, Array.replicate_succ, Array.replicate_zero, List.push_toArray, List.append_toArray, List.nil_append, List.cons_append]
  clear hz
  go_wp2_with (first | (go_at_call 39; (with_reducible refine (verdict_any t clp z HZ.out _ ok (hP.below ((Below.refl _ _).alloc (Nat.le_refl _) _)) hM2).mono ?_); rw [HV.out]; rintro e w1 ⟨rfl, hb_w1⟩; have k0 : w1.cell? ⟨w.heap.size, 0, none⟩ = some (.int .i64 t) := cell_keep hb_w1 (cell_top rfl rfl)) | (go_at_call 40; refine (asked_any _ _ _).mono ?_; rintro e w9 ⟨rfl, rfl⟩))
  have hB1 : Below w.heap.size w w1 := ((Below.refl _ _).alloc (Nat.le_refl _) _).trans (hb_w1.mono (by simp))
  have hs1 : w.heap.size < w1.heap.size := World.block_lt_of_cell? _ _ k0
  obtain ⟨V, hV⟩ : ∃ V, V = (w1.alloc (.cells #[.pointer (some ⟨p, 0, none⟩)] 44)).alloc (.cells #[.int .i64 1] 3) := ⟨_, rfl⟩
  have hBV : Below w1.heap.size w1 V := by rw [hV]; exact ((Below.refl _ _).alloc (Nat.le_refl _) _).alloc (by simp) _
  have k2 : V.cell? ⟨w1.heap.size, 0, none⟩ = some (.pointer (some ⟨p, 0, none⟩)) := by rw [hV]; simp [go_sem]
  have k3 : V.cell? ⟨w1.heap.size + 1, 0, none⟩ = some (.int .i64 1) := by rw [hV]; simp [go_sem]
  have sV : V.heap.size = w1.heap.size + 2 := by rw [hV]; simp
  rw [← hV]
  clear hV hb_w1
  have hBW : Below w.heap.size w V := hB1.trans (hBV.mono hB1.size)
  have k0 := cell_keep hBV k0
  have hPV := hP.below hBW
  have hlen := ok.length
  have hinV : ∀ k, inB l k → k < w.heap.size := fun k ⟨r, hr, e⟩ => by rw [e]; exact (hP.bucks r hr).lt
  obtain ⟨sg, hsg⟩ : ∃ sg : List {r // r ∈ l} → Bst, sg = fun pre => pre.foldl (fun σ x => tk t σ x.1) σ := ⟨_, rfl⟩
  have sg0 : sg [] = σ := by rw [hsg]; rfl
  have sg1 : ∀ pre x, sg (pre ++ [x]) = tk t (sg pre) x.1 := fun pre x => by rw [hsg]; simp [List.foldl_append]
  have sg2 : sg (l.attach.filter (fun x => x.1.asks false)) = nxtS l σ t 2 z := by
    rw [hsg]
    unfold nxtS
    rw [if_neg (by decide), ← filter_attach, List.foldl_map]
    rfl
  have SG1 := Lib.hid sg1
  have SG2 := Lib.hid sg2
  clear sg1 sg2 hsg
  refine (wpIn_wide (n := 9)).1 ?_
  refine wpIn_rangeFunc_ownH rfl (by omega) (gf := 41) (lb := #[.pointer (some ⟨w1.heap.size, 0, none⟩), .pointer (some ⟨w1.heap.size + 1, 0, none⟩)]) rfl trivial (enters_of Try.func41 (by kernel_rfl) rfl)
    (asked_stops (Subtype.val : {r // r ∈ l} → Rs) Fence.wide (9 - 1) trivial rfl (by omega) p ra w1.heap.size (w1.heap.size + 1) len cap 1 false rfl l.attach (by rw [List.length_attach]; exact hlen) (by have := ok.most; omega) V k2 k3 hPV.cells.2.1
      (fun i x hx => hPV.rules i x.1 (by
        have := congrArg (Option.map Subtype.val) hx
        rw [← List.getElem?_map, List.attach_map_subtype_val] at this
        exact this)))
    Kept.trans (kept_b hPV.rlt (by omega)) (Below.refl _ _) (fun _ => rfl)
    (fun pre Z => Z.cell? ⟨w.heap.size, 0, none⟩ = some (.int .i64 t) ∧ (∀ y ∈ l, BuckAt Z y.b y.st y.ea (sg pre y.b).1 (sg pre y.b).2) ∧ Bd l (sg pre) (2305843009213693952 + pre.length * 1099511627776) ∧ ChgL (inB l) w Z)
    (fun _ _ _ => False)
    (fun pre A C row hs hg hr => ⟨cell_kept hs.1 hg (fun r e => (hr r e).2), fun y hy => (grownBy_keeps_cells hg (fun r e => (hr r e).2) (hs.2.1 y hy) rfl).trans (hs.2.1 y hy), hs.2.2.1, hs.2.2.2.grown hBW.size hg hr⟩)
    (fun _ _ _ _ _ hs _ _ => hs)
    ⟨k0, fun y hy => by rw [sg0]; exact hPV.bucks y hy, by rw [sg0]; exact fun r hr => by have := hM r hr; simp; omega, hBW_of hBW⟩
    (fun x a' Z => ∃ q, a' = { tmps := #[.pointer (some ⟨p, 0, none⟩), .int .i64 t, .int .i64 clp, undef, .pointer (some ⟨w.heap.size, 0, none⟩), undef, .int .i64 0, .int .i64 2, .int .i64 1, .pointer (some ⟨q, 0, none⟩), .pointer (some ⟨p, 0, none⟩), .bool false, .pointer (some ⟨p, 0, none⟩), .int .i64 t, .int .i64 clp, .int .i64 2, .int .i64 clp, .int .i64 2, .bool true, .int .i64 2, .bool true, .pointer (some ⟨p, 0, none⟩), .int .i64 1, .func (.func 41) #[] #[.pointer (some ⟨w1.heap.size, 0, none⟩), .pointer (some ⟨w1.heap.size + 1, 0, none⟩)], .agg x.1.val, undef, undef, undef, undef, undef, undef, undef, undef, undef, undef, undef, undef, undef, undef, undef, undef, undef, undef, undef, undef, undef, undef, undef, undef, undef, undef, undef, undef, undef, undef, undef, undef, undef, undef, undef, undef], defers := [] } ∧ w.heap.size < q ∧ RsAt Z q 0 x.1)
    (fun x a' _ A C row hs hg hr => by
      obtain ⟨q, he, hq, h0, h1, h2, h3, h4⟩ := hs
      exact ⟨q, he, hq, cell_kept h0 hg (fun r e => (hr r e).2), cell_kept h1 hg (fun r e => (hr r e).2), cell_kept h2 hg (fun r e => (hr r e).2), cell_kept h3 hg (fun r e => (hr r e).2), cell_kept h4 hg (fun r e => (hr r e).2)⟩)
    ?assign ?body ?done ?stop
  case assign =>
    intro l' pre x Z K hi hK
    have b1 : Below Z.heap.size Z (Z.alloc (.cells x.1.val 75)) := (Below.refl _ _).alloc (Nat.le_refl _) _
    have HK := Lib.hid hK
    have HI := Lib.hid hi
    clear hK hi
    gi_wp2
    have hzl : w.heap.size < Z.heap.size := World.block_lt_of_cell? _ _ HI.out.1
    exact HK.out _ _ ⟨b1.size, fun k o _ hk _ => (b1.block k (Array.getElem?_eq_some_iff.1 hk).1).trans hk⟩ (Kept.of b1) ⟨cell_keep b1 HI.out.1, fun y hy => (HI.out.2.1 y hy).below b1, HI.out.2.2.1, HI.out.2.2.2.trans (ChgL.of b1)⟩ ⟨Z.heap.size, rfl, hzl, cell_top rfl rfl, cell_top rfl rfl, cell_top rfl rfl, cell_top rfl rfl, cell_top rfl rfl⟩
  case body =>
    rintro l' pre x a' Z hl' ⟨rr, hrec⟩ ⟨ht, hbk, hbd, hch⟩ ⟨q, rfl, hq, d0, d1, d2, d3, d4⟩ hlen'
    have hb := hbk x.1 x.2
    have hbx := hbd x.1 x.2
    have hsp := ok.span x.1 x.2
    have hmost := ok.most
    have hlt : x.1.b < w.heap.size := hinV _ ⟨x.1, x.2, rfl⟩
    have hpl : (pre.length : Int) ≤ 2 := by omega
    have hbd1 := tk_bd ok hbd (by omega) t x.1 x.2
    have hlp : ((pre ++ [x]).length : Int) = pre.length + 1 := by simp
    have hf26 : Fence.wide.fn 26 := trivial
    simp only [Nat.zero_mul, Nat.zero_add] at d0 d1 d2 d3 d4
    have HS := SG1.out pre x
    have HS := Lib.hid HS
    have HBK := Lib.hid hbk
    have HBD := Lib.hid hbd1
    have HLP := Lib.hid hlp
    have hx2 := x.2
    clear hrec hbk hbd hbd1 hlp
    by_cases hf : fitR (sg pre) t x.1 = true
    · have HF := Lib.hid hf
      have hf2 : fitsB x.1.ea (sg pre x.1.b).1 (sg pre x.1.b).2 t = true := hf
      have HF2 := Lib.hid hf2
      clear hf hf2
      gi_wp2_with (gi_at_call 26; (with_reducible refine (takeY_in _ _ _ _ _ _ _ t _ hb (by omega) (by omega) (by omega) (by omega) (by omega) (by omega) HF2.out).mono ?_); rintro e wf ⟨rfl, hbn, hcg⟩)
      refine ⟨⟨hcg.size, fun k o hk ho _ => (hcg.block k (Array.getElem?_eq_some_iff.1 ho).1 (by omega)).trans ho⟩, ⟨hcg.size, fun k hk hl => hcg.block k hl (by have := (ok.bp x.1 x.2).2; omega)⟩, hcg.cell (by omega) ht, ?_, ?_, hch.trans (ChgL.chg hcg ⟨x.1, x.2, rfl⟩)⟩
      · rw [HS.out]; exact buck_tk ok x.2 HF.out HBK.out hbn hcg
      · rw [HS.out, HLP.out, Int.add_mul, ← Int.add_assoc]; exact HBD.out
    · have hf : fitR (sg pre) t x.1 = false := by simpa using hf
      have HF := Lib.hid hf
      have hf2 : fitsB x.1.ea (sg pre x.1.b).1 (sg pre x.1.b).2 t = false := hf
      have HF2 := Lib.hid hf2
      clear hf hf2
      gi_wp2_with (gi_at_call 26; (with_reducible refine (takeN_in _ _ _ _ _ _ _ t _ hb (by omega) (by omega) (by omega) (by omega) HF2.out).mono ?_); rintro e wf ⟨rfl, m, rfl⟩)
      refine ⟨keeps_drew, kept_drew, ht, ?_, ?_, ⟨hch.os, hch.tape, hch.output, hch.size, hch.block⟩⟩
      · rw [HS.out, tk_same HF.out]; exact HBK.out
      · rw [HS.out, HLP.out, Int.add_mul, ← Int.add_assoc]; exact HBD.out
  case done =>
    rintro D ys Z hD rfl ⟨ht, hbk, hbd, hch⟩ hK
    have hbk2 : ∀ y ∈ l, BuckAt Z y.b y.st y.ea (nxtS l σ t 2 z y.b).1 (nxtS l σ t 2 z y.b).2 := by rw [← SG2.out]; exact hbk
    have HPZ := hP.step ok hch hbk2
    obtain ⟨τ, hτ⟩ : ∃ τ, nxtS l σ t 2 z = τ := ⟨_, rfl⟩
    rw [hτ] at HPZ
    have HT := Lib.hid hτ
    clear hτ
    have hcells := HPZ.cells
    have a0 := hcells.1
    have hzc := HZ.out
    have hchp : ChgL (fun k => k = p ∨ inB l k) w Z := hch.mono (fun k h => .inr h)
    have hDp : D ≠ p := by have := hP.lt; have := hBW.size; omega
    have y0 : IntKind.i64.wrap (c0 + 1) = c0 + 1 := IntWalk.i64_in _ (by omega)
    have y1 : IntKind.i64.wrap (c1 + 1) = c1 + 1 := IntWalk.i64_in _ (by omega)
    have y2 : IntKind.i64.wrap (c2 + 1) = c2 + 1 := IntWalk.i64_in _ (by omega)
    have hDl : D < Z.heap.size := (Array.getElem?_eq_some_iff.1 hK).1
    clear hbk hbd hch hbk2 hcells ht k0 k2 k3
    cases al <;> cases z
    · go_wp2
      (obtain ⟨w2, hw2⟩ : ∃ w2 : World, w2 = Z.drew := ⟨_, rfl⟩); (have H2 : PolAt w2 p ra len cap false l τ c0 c1 c2 c3 := by rw [hw2]; exact (HPZ).drew); (have G2 : Below Z.heap.size Z w2 := by rw [hw2]; exact (Below.refl _ _).drew); (obtain ⟨d0, d1, d2, d3, d4, d5, df⟩ := H2.cells); (have f2 := df 2); (refine region_tail 8 (by kernel_rfl) (by kernel_rfl) ?_); (rw [← hw2]); (clear hw2); (simp only [List.take_succ_cons, List.take_zero, List.drop_succ_cons, List.drop_zero]); (repeat still_step); (refine wpStill_nil ?_); go_wp2; (have H3 : PolAt (w2.setCell ⟨p, 2, none⟩ (.int .i64 (c0 + 1))) p ra len cap false l τ (c0 + 1) c1 c2 c3 := H2.setAt ok 2 (c0 + 1) rfl); (clear d0 d1 d2 d3 d4 d5 f2 df); (obtain ⟨w3, hw3⟩ : ∃ w3 : World, w3 = (w2.setCell ⟨p, 2, none⟩ (.int .i64 (c0 + 1))) := ⟨_, rfl⟩); (have G3 : ChgL (fun k => k = p ∨ inB l k) w2 w3 := by rw [hw3]; exact ChgL.chg ((Chg.refl p w2).setCell 2 _) (.inl rfl)); (have hW3 := fun (D : Nat) (hDp : D ≠ p) => show w3.heap[D]? = w2.heap[D]? from (by rw [hw3]; exact Below.heap_setCell w2 ⟨p, 2, none⟩ _ D hDp)); (rw [← hw3] at H3 ⊢); (clear hw3); (obtain ⟨w4, hw4⟩ : ∃ w4 : World, w4 = w3.drew := ⟨_, rfl⟩); (have H4 : PolAt w4 p ra len cap false l τ (c0 + 1) c1 c2 c3 := by rw [hw4]; exact H3.drew); (have G4 : Below w3.heap.size w3 w4 := by rw [hw4]; exact (Below.refl _ _).drew); (obtain ⟨d0, d1, d2, d3, d4, d5, df⟩ := H4.cells); (have f3 := df 3); (have f4 := df 4); (have f5 := df 5); (refine region_tail 9 (by kernel_rfl) (by kernel_rfl) ?_); (rw [← hw4]); (clear hw4); (simp only [List.take_succ_cons, List.take_zero, List.drop_succ_cons, List.drop_zero]); (repeat still_step); (refine wpStill_nil ?_); go_wp2
      (have hpl := H4.lt); (have hK2 : w2.heap[D]? = some (.deferred (some [])) := (G2.block D hDl).trans hK); (have hK3 : w3.heap[D]? = some (.deferred (some [])) := (hW3 D hDp).trans hK2); (have hK4 : w4.heap[D]? = some (.deferred (some [])) := (G4.block D (Array.getElem?_eq_some_iff.1 hK3).1).trans hK3); (have hKf := (Below.heap_setCell w4 ⟨p, 4, none⟩ (.int .i64 (c2 + 1)) D hDp).trans hK4); (refine ⟨by simp, .inl ⟨_, _, rfl, run_takeDeferred hKf, ?_⟩⟩); (refine ⟨_, results_tmp rfl _ _ _, ?_, ?_, ?_⟩); (focus exact rfl)
      · rw [HT.out, show c1 + hit (finZ 2 false false) 1 = c1 by show c1 + 0 = c1; omega, show c2 + hit (finZ 2 false false) 2 = c2 + 1 by show c2 + 1 = c2 + 1; omega]
        exact (H4.setAt ok 4 (c2 + 1) rfl).put (by omega) (fun r hr => by have := hinV r.b ⟨r, hr, rfl⟩; omega) (by have := hP.rlt; omega)
      · exact (((((hchp.trans (ChgL.of G2)).trans G3).trans (ChgL.of G4)).trans (ChgL.chg ((Chg.refl p w4).setCell 4 _) (.inl rfl)))).put (by omega) hKf
    · go_wp2
      (obtain ⟨w2, hw2⟩ : ∃ w2 : World, w2 = Z.drew := ⟨_, rfl⟩); (have H2 : PolAt w2 p ra len cap false l τ c0 c1 c2 c3 := by rw [hw2]; exact (HPZ).drew); (have G2 : Below Z.heap.size Z w2 := by rw [hw2]; exact (Below.refl _ _).drew); (obtain ⟨d0, d1, d2, d3, d4, d5, df⟩ := H2.cells); (have f2 := df 2); (refine region_tail 8 (by kernel_rfl) (by kernel_rfl) ?_); (rw [← hw2]); (clear hw2); (simp only [List.take_succ_cons, List.take_zero, List.drop_succ_cons, List.drop_zero]); (repeat still_step); (refine wpStill_nil ?_); go_wp2; (have H3 : PolAt (w2.setCell ⟨p, 2, none⟩ (.int .i64 (c0 + 1))) p ra len cap false l τ (c0 + 1) c1 c2 c3 := H2.setAt ok 2 (c0 + 1) rfl); (clear d0 d1 d2 d3 d4 d5 f2 df); (obtain ⟨w3, hw3⟩ : ∃ w3 : World, w3 = (w2.setCell ⟨p, 2, none⟩ (.int .i64 (c0 + 1))) := ⟨_, rfl⟩); (have G3 : ChgL (fun k => k = p ∨ inB l k) w2 w3 := by rw [hw3]; exact ChgL.chg ((Chg.refl p w2).setCell 2 _) (.inl rfl)); (have hW3 := fun (D : Nat) (hDp : D ≠ p) => show w3.heap[D]? = w2.heap[D]? from (by rw [hw3]; exact Below.heap_setCell w2 ⟨p, 2, none⟩ _ D hDp)); (rw [← hw3] at H3 ⊢); (clear hw3); (obtain ⟨w4, hw4⟩ : ∃ w4 : World, w4 = w3.drew := ⟨_, rfl⟩); (have H4 : PolAt w4 p ra len cap false l τ (c0 + 1) c1 c2 c3 := by rw [hw4]; exact H3.drew); (have G4 : Below w3.heap.size w3 w4 := by rw [hw4]; exact (Below.refl _ _).drew); (obtain ⟨d0, d1, d2, d3, d4, d5, df⟩ := H4.cells); (have f3 := df 3); (have f4 := df 4); (have f5 := df 5); (refine region_tail 9 (by kernel_rfl) (by kernel_rfl) ?_); (rw [← hw4]); (clear hw4); (simp only [List.take_succ_cons, List.take_zero, List.drop_succ_cons, List.drop_zero]); (repeat still_step); (refine wpStill_nil ?_); go_wp2
      (have hpl := H4.lt); (have hK2 : w2.heap[D]? = some (.deferred (some [])) := (G2.block D hDl).trans hK); (have hK3 : w3.heap[D]? = some (.deferred (some [])) := (hW3 D hDp).trans hK2); (have hK4 : w4.heap[D]? = some (.deferred (some [])) := (G4.block D (Array.getElem?_eq_some_iff.1 hK3).1).trans hK3); (have hKf := (Below.heap_setCell w4 ⟨p, 4, none⟩ (.int .i64 (c2 + 1)) D hDp).trans hK4); (refine ⟨by simp, .inl ⟨_, _, rfl, run_takeDeferred hKf, ?_⟩⟩); (refine ⟨_, results_tmp rfl _ _ _, ?_, ?_, ?_⟩); (focus exact rfl)
      · rw [HT.out, show c1 + hit (finZ 2 false true) 1 = c1 by show c1 + 0 = c1; omega, show c2 + hit (finZ 2 false true) 2 = c2 + 1 by show c2 + 1 = c2 + 1; omega]
        exact (H4.setAt ok 4 (c2 + 1) rfl).put (by omega) (fun r hr => by have := hinV r.b ⟨r, hr, rfl⟩; omega) (by have := hP.rlt; omega)
      · exact (((((hchp.trans (ChgL.of G2)).trans G3).trans (ChgL.of G4)).trans (ChgL.chg ((Chg.refl p w4).setCell 4 _) (.inl rfl)))).put (by omega) hKf
    · go_wp2
      (obtain ⟨w2, hw2⟩ : ∃ w2 : World, w2 = Z.drew := ⟨_, rfl⟩); (have H2 : PolAt w2 p ra len cap true l τ c0 c1 c2 c3 := by rw [hw2]; exact (HPZ).drew); (have G2 : Below Z.heap.size Z w2 := by rw [hw2]; exact (Below.refl _ _).drew); (obtain ⟨d0, d1, d2, d3, d4, d5, df⟩ := H2.cells); (have f2 := df 2); (refine region_tail 8 (by kernel_rfl) (by kernel_rfl) ?_); (rw [← hw2]); (clear hw2); (simp only [List.take_succ_cons, List.take_zero, List.drop_succ_cons, List.drop_zero]); (repeat still_step); (refine wpStill_nil ?_); go_wp2; (have H3 : PolAt (w2.setCell ⟨p, 2, none⟩ (.int .i64 (c0 + 1))) p ra len cap true l τ (c0 + 1) c1 c2 c3 := H2.setAt ok 2 (c0 + 1) rfl); (clear d0 d1 d2 d3 d4 d5 f2 df); (obtain ⟨w3, hw3⟩ : ∃ w3 : World, w3 = (w2.setCell ⟨p, 2, none⟩ (.int .i64 (c0 + 1))) := ⟨_, rfl⟩); (have G3 : ChgL (fun k => k = p ∨ inB l k) w2 w3 := by rw [hw3]; exact ChgL.chg ((Chg.refl p w2).setCell 2 _) (.inl rfl)); (have hW3 := fun (D : Nat) (hDp : D ≠ p) => show w3.heap[D]? = w2.heap[D]? from (by rw [hw3]; exact Below.heap_setCell w2 ⟨p, 2, none⟩ _ D hDp)); (rw [← hw3] at H3 ⊢); (clear hw3); (obtain ⟨w4, hw4⟩ : ∃ w4 : World, w4 = w3.drew := ⟨_, rfl⟩); (have H4 : PolAt w4 p ra len cap true l τ (c0 + 1) c1 c2 c3 := by rw [hw4]; exact H3.drew); (have G4 : Below w3.heap.size w3 w4 := by rw [hw4]; exact (Below.refl _ _).drew); (obtain ⟨d0, d1, d2, d3, d4, d5, df⟩ := H4.cells); (have f3 := df 3); (have f4 := df 4); (have f5 := df 5); (refine region_tail 9 (by kernel_rfl) (by kernel_rfl) ?_); (rw [← hw4]); (clear hw4); (simp only [List.take_succ_cons, List.take_zero, List.drop_succ_cons, List.drop_zero]); (repeat still_step); (refine wpStill_nil ?_); go_wp2
      (have hpl := H4.lt); (have hK2 : w2.heap[D]? = some (.deferred (some [])) := (G2.block D hDl).trans hK); (have hK3 : w3.heap[D]? = some (.deferred (some [])) := (hW3 D hDp).trans hK2); (have hK4 : w4.heap[D]? = some (.deferred (some [])) := (G4.block D (Array.getElem?_eq_some_iff.1 hK3).1).trans hK3); (have hKf := (Below.heap_setCell w4 ⟨p, 4, none⟩ (.int .i64 (c2 + 1)) D hDp).trans hK4); (refine ⟨by simp, .inl ⟨_, _, rfl, run_takeDeferred hKf, ?_⟩⟩); (refine ⟨_, results_tmp rfl _ _ _, ?_, ?_, ?_⟩); (focus exact rfl)
      · rw [HT.out, show c1 + hit (finZ 2 true false) 1 = c1 by show c1 + 0 = c1; omega, show c2 + hit (finZ 2 true false) 2 = c2 + 1 by show c2 + 1 = c2 + 1; omega]
        exact (H4.setAt ok 4 (c2 + 1) rfl).put (by omega) (fun r hr => by have := hinV r.b ⟨r, hr, rfl⟩; omega) (by have := hP.rlt; omega)
      · exact (((((hchp.trans (ChgL.of G2)).trans G3).trans (ChgL.of G4)).trans (ChgL.chg ((Chg.refl p w4).setCell 4 _) (.inl rfl)))).put (by omega) hKf
    · go_wp2
      (obtain ⟨w2, hw2⟩ : ∃ w2 : World, w2 = Z.drew := ⟨_, rfl⟩); (have H2 : PolAt w2 p ra len cap true l τ c0 c1 c2 c3 := by rw [hw2]; exact (HPZ).drew); (have G2 : Below Z.heap.size Z w2 := by rw [hw2]; exact (Below.refl _ _).drew); (obtain ⟨d0, d1, d2, d3, d4, d5, df⟩ := H2.cells); (have f2 := df 2); (refine region_tail 8 (by kernel_rfl) (by kernel_rfl) ?_); (rw [← hw2]); (clear hw2); (simp only [List.take_succ_cons, List.take_zero, List.drop_succ_cons, List.drop_zero]); (repeat still_step); (refine wpStill_nil ?_); go_wp2; (have H3 : PolAt (w2.setCell ⟨p, 2, none⟩ (.int .i64 (c0 + 1))) p ra len cap true l τ (c0 + 1) c1 c2 c3 := H2.setAt ok 2 (c0 + 1) rfl); (clear d0 d1 d2 d3 d4 d5 f2 df); (obtain ⟨w3, hw3⟩ : ∃ w3 : World, w3 = (w2.setCell ⟨p, 2, none⟩ (.int .i64 (c0 + 1))) := ⟨_, rfl⟩); (have G3 : ChgL (fun k => k = p ∨ inB l k) w2 w3 := by rw [hw3]; exact ChgL.chg ((Chg.refl p w2).setCell 2 _) (.inl rfl)); (have hW3 := fun (D : Nat) (hDp : D ≠ p) => show w3.heap[D]? = w2.heap[D]? from (by rw [hw3]; exact Below.heap_setCell w2 ⟨p, 2, none⟩ _ D hDp)); (rw [← hw3] at H3 ⊢); (clear hw3); (obtain ⟨w4, hw4⟩ : ∃ w4 : World, w4 = w3.drew := ⟨_, rfl⟩); (have H4 : PolAt w4 p ra len cap true l τ (c0 + 1) c1 c2 c3 := by rw [hw4]; exact H3.drew); (have G4 : Below w3.heap.size w3 w4 := by rw [hw4]; exact (Below.refl _ _).drew); (obtain ⟨d0, d1, d2, d3, d4, d5, df⟩ := H4.cells); (have f3 := df 3); (have f4 := df 4); (have f5 := df 5); (refine region_tail 9 (by kernel_rfl) (by kernel_rfl) ?_); (rw [← hw4]); (clear hw4); (simp only [List.take_succ_cons, List.take_zero, List.drop_succ_cons, List.drop_zero]); (repeat still_step); (refine wpStill_nil ?_); go_wp2
      (have hpl := H4.lt); (have hK2 : w2.heap[D]? = some (.deferred (some [])) := (G2.block D hDl).trans hK); (have hK3 : w3.heap[D]? = some (.deferred (some [])) := (hW3 D hDp).trans hK2); (have hK4 : w4.heap[D]? = some (.deferred (some [])) := (G4.block D (Array.getElem?_eq_some_iff.1 hK3).1).trans hK3); (have hKf := (Below.heap_setCell w4 ⟨p, 4, none⟩ (.int .i64 (c2 + 1)) D hDp).trans hK4); (refine ⟨by simp, .inl ⟨_, _, rfl, run_takeDeferred hKf, ?_⟩⟩); (refine ⟨_, results_tmp rfl _ _ _, ?_, ?_, ?_⟩); (focus exact rfl)
      · rw [HT.out, show c1 + hit (finZ 2 true true) 1 = c1 by show c1 + 0 = c1; omega, show c2 + hit (finZ 2 true true) 2 = c2 + 1 by show c2 + 1 = c2 + 1; omega]
        exact (H4.setAt ok 4 (c2 + 1) rfl).put (by omega) (fun r hr => by have := hinV r.b ⟨r, hr, rfl⟩; omega) (by have := hP.rlt; omega)
      · exact (((((hchp.trans (ChgL.of G2)).trans G3).trans (ChgL.of G4)).trans (ChgL.chg ((Chg.refl p w4).setCell 4 _) (.inl rfl)))).put (by omega) hKf
  case stop =>
    rintro D c pre Z _ _ hf _
    exact hf.elim
/-- what a policer does with a cell. -/
def lastZ (l : List Rs) (σ : Bst) (t : Int) (z al : Bool) : Int := finZ (verdZ l σ t z) al z
def nextS (l : List Rs) (σ : Bst) (t : Int) (z : Bool) : Bst := nxtS l σ t (verdZ l σ t z) z
theorem lastZ_ex (l : List Rs) (σ : Bst) (t : Int) (z al : Bool) : lastZ l σ t z al = 1 ∨ lastZ l σ t z al = 2 ∨ lastZ l σ t z al = 3 := by
  unfold lastZ finZ
  split
  · exact .inr (.inl rfl)
  · exact verdZ_ex l σ t z
theorem take_any {p ra len cap : Nat} {al : Bool} {l : List Rs} {σ : Bst} {c0 c1 c2 c3 : Int} (t clp : Int) (z : Bool) (hz : (clp == 0) = z) (w : World) (ok : PolOk p ra len l) (hP : PolAt w p ra len cap al l σ c0 c1 c2 c3) (hM : Bd l σ 2305843009213693952) (b0 : 0 ≤ c0 ∧ c0 ≤ 1000000) (b1 : 0 ≤ c1 ∧ c1 ≤ 1000000) (b2 : 0 ≤ c2 ∧ c2 ≤ 1000000) (b3 : 0 ≤ c3 ∧ c3 ≤ 1000000) :
    Calls Try.prog 29 #[.pointer (some ⟨p, 0, none⟩), .int .i64 t, .int .i64 clp] w fun e w' => e = .returned (.int .i64 (lastZ l σ t z al)) ∧ PolAt w' p ra len cap al l (nextS l σ t z) (c0 + 1) (c1 + hit (lastZ l σ t z al) 1) (c2 + hit (lastZ l σ t z al) 2) (c3 + hit (lastZ l σ t z al) 3) ∧ ChgL (fun k => k = p ∨ inB l k) w w' := by
  have e3 : ∀ v, v = 1 ∨ v = 2 → c3 + hit (finZ v al z) 3 = c3 := fun v hv => by
    have h1 : finZ v al z = 1 ∨ finZ v al z = 2 := by
      unfold finZ; split
      · exact .inr rfl
      · exact hv
    unfold hit
    rw [if_neg (by rcases h1 with h | h <;> rw [h] <;> omega)]; omega
  unfold lastZ nextS
  rcases verdZ_ex l σ t z with hv | hv | hv
  · rw [hv, e3 1 (.inl rfl)]
    exact take1 t clp z hz w ok hP hM b0 b1 b2 hv
  · rw [hv, e3 2 (.inr rfl)]
    exact take2 t clp z hz w ok hP hM b0 b1 b2 hv
  · rw [hv]
    have f3 : finZ 3 al z = 3 := by unfold finZ; rw [if_neg (by omega)]
    rw [f3]
    rw [show c1 + hit 3 1 = c1 by show c1 + 0 = c1; omega, show c2 + hit 3 2 = c2 by show c2 + 0 = c2; omega, show c3 + hit 3 3 = c3 + 1 by rfl]
    exact take3 t clp z hz w ok hP hM b0 b3 hv
end Go.Proofs.Ytndmmhljphlhjaa
