import Derived.Test.YtaoagbnhomjkpaaGreatZTopRates03
import Derived.Test.YtaoagbnhomjkpaaGreatZTopRates06
/- The walk of cell.Build. -/
namespace Go.Proofs.YtaoagbnhomjkpaaGreat
set_option linter.unusedVariables false
set_option linter.unusedSimpArgs false
open Go.RowKit
set_option maxRecDepth 100000
set_option maxHeartbeats 4000000
/-- a cell in memory. -/
structure CellAt (w : World) (b : Nat) (g p c t l : Int) (zs : List Int) : Prop where
  c0 : w.cell? ⟨b, 0, none⟩ = some (.int .i64 g)
  c1 : w.cell? ⟨b, 1, none⟩ = some (.int .i64 p)
  c2 : w.cell? ⟨b, 2, none⟩ = some (.int .i64 c)
  c3 : w.cell? ⟨b, 3, none⟩ = some (.int .i64 t)
  c4 : w.cell? ⟨b, 4, none⟩ = some (.int .i64 l)
  row : BytesAt w (some ⟨b, 5, none⟩) 48 zs
theorem cellAt_new {w : World} {X : Array Value} {E : TypeId} {g p c t l : Int} {zs : List Int} (hX : X = (hdr5 g p c t l ++ u8s zs).toArray) (hl : zs.length = 48) (hb : allB zs) : CellAt (w.alloc (.cells X E)) w.heap.size g p c t l zs := by
  subst hX
  have hr : (w.alloc (.cells (hdr5 g p c t l ++ u8s zs).toArray E)).rangeAt w.heap.size 5 (u8s zs) := fun j v hv => by
    refine cell_top rfl ?_
    rw [List.getElem?_toArray, List.getElem?_append_right (by simp)]
    simpa using hv
  have h := bytes_range hr (by simp) hb (by omega)
  rw [hl] at h
  exact ⟨cell_top rfl rfl, cell_top rfl rfl, cell_top rfl rfl, cell_top rfl rfl, cell_top rfl rfl, h⟩
theorem hdr_at {X : Array Value} {g p c t l : Int} {P : List Value} (hX : X = (hdr5 g p c t l ++ P).toArray) (hsz : X.size = 53) :
    (X[0]'(by omega) = .int .i64 g) ∧ (X[1]'(by omega) = .int .i64 p) ∧ (X[2]'(by omega) = .int .i64 c) ∧ (X[3]'(by omega) = .int .i64 t) ∧ (X[4]'(by omega) = .int .i64 l) := by
  subst hX
  exact ⟨by simp, by simp, by simp, by simp, by simp⟩
theorem arrB4 (a : Option Addr) (c : Nat) (w : World) : (Instr.arrayAt 127 (.slice a 4 c)).run Tryz.prog w = .ok (.pointer a) w := run_arrayAt w _ _ _ a 4 c Tryz.underlying127 (by decide)
theorem arrB5 (a : Option Addr) (c : Nat) (w : World) : (Instr.arrayAt 130 (.slice a 5 c)).run Tryz.prog w = .ok (.pointer a) w := run_arrayAt w _ _ _ a 5 c Tryz.underlying130 (by decide)
theorem arrB48 (a : Option Addr) (c : Nat) (w : World) : (Instr.arrayAt 24 (.slice a 48 c)).run Tryz.prog w = .ok (.pointer a) w := run_arrayAt w _ _ _ a 48 c Tryz.underlying24 (by decide)
theorem OwnB.base {w : World} {B B' n : Nat} {v : Value} {zs : List Int} (h : OwnB w B v n zs) (hb : B' ≤ B) : OwnB w B' v n zs := by
  refine ⟨⟨h.1.1, ?_⟩, h.2⟩
  rcases h.1.2 with h2 | ⟨g, cap, cur, hv, hg, r⟩
  · exact Or.inl h2
  · exact Or.inr ⟨g, cap, cur, hv, Nat.le_trans hb hg, r⟩
/-- a cell's bytes. -/
def headZ (n : Int) : List Int := bytes4 n ++ [e8 (bytes4 n)]
def cellZ (n : Int) (zs : List Int) : List Int := headZ n ++ zs
theorem cellBuild_yes (g p c t l n : Int) (nni : Bool) (zs : List Int) (w : World) (hr : rightH nni g p c t l = true) (hw : wordH nni g p c t l = n) (hl : zs.length = 48) (hb : allB zs) :
    Calls Tryz.prog 34 #[.agg (hdr5 g p c t l ++ u8s zs).toArray, .bool nni] w fun e w' => ∃ v, e = .returned (.tuple #[v, .int .i64 0]) ∧ OwnB w' w.heap.size v 53 (cellZ n zs) ∧ Below w.heap.size w w' := by
  have hsz : (hdr5 g p c t l ++ u8s zs).toArray.size = 53 := by simp [hl]
  obtain ⟨X, hX⟩ : ∃ X, X = (hdr5 g p c t l ++ u8s zs).toArray := ⟨_, rfl⟩
  rw [← hX] at hsz ⊢
  have HC : CellAt (w.alloc (.cells X 58)) w.heap.size g p c t l zs := cellAt_new hX hl hb
  obtain ⟨y0, y1, y2, y3, y4⟩ := hdr_at hX hsz
  have row := HC.row
  clear HC
  obtain ⟨zh, hzh⟩ : ∃ zh, zh = bytes4 n := ⟨_, rfl⟩
  obtain ⟨x, y, z, u, hq⟩ : ∃ x y z u, zh = [x, y, z, u] := ⟨_, _, _, _, hzh⟩
  have hv : ∀ q ∈ [x, y, z, u], 0 ≤ q ∧ q < 256 := by
    rw [← hq, hzh]; unfold bytes4
    intro q hq; simp only [List.mem_cons, List.not_mem_nil, or_false] at hq
    rcases hq with h | h | h | h <;> (rw [h]; constructor <;> omega)
  obtain ⟨E, hE⟩ : ∃ E, e8 [x, y, z, u] = E := ⟨_, rfl⟩
  have hv5 : ∀ q ∈ [x, y, z, u, E], 0 ≤ q ∧ q < 256 := by
    rw [← hE]; exact right_B (zs := [x, y, z, u]) hv
  have HCZ : Hid (cellZ n zs = [x, y, z, u, E] ++ zs) := by
    show cellZ n zs = _
    unfold cellZ headZ
    rw [← hzh, hq, hE]; rfl
  rw [HCZ.out]
  have HE := Lib.hid hE
  have HZH := Lib.hid hzh
  have HQ := Lib.hid hq
  have HN := Lib.hid hw
  clear hE hzh hq hX hw
  have ha4 := arrB4
  go_enter Tryz.func34, Tryz.ntmps34
  go_wp2_with (first | (go_at_call 57; refine (pack_at g p c t l nni _ n hr HN.out).mono ?_; rintro e wp ⟨b, rfl, hb1, hb2, hB, hb_wp⟩; rw [← HZH.out, HQ.out] at hB; obtain ⟨hc_wp, hf_wp⟩ := bcell hb_wp; have q0 : wp.cell? ⟨b, 0, none⟩ = some (.int .u8 x) := hB.cellAt (k := 0) (by omega); have q1 : wp.cell? ⟨b, 1, none⟩ = some (.int .u8 y) := hB.cellAt (k := 1) (by omega); have q2 : wp.cell? ⟨b, 2, none⟩ = some (.int .u8 z) := hB.cellAt (k := 2) (by omega); have q3 : wp.cell? ⟨b, 3, none⟩ = some (.int .u8 u) := hB.cellAt (k := 3) (by omega); have hs_wp := hb_wp.size; (try simp at hs_wp)) | (go_at_call 58; (with_reducible refine (seal_any _ _ _ _ _ hv).mono ?_); rw [HE.out]; rintro e ws ⟨rfl, hb_ws⟩; obtain ⟨hc_ws, hf_ws⟩ := bcell hb_ws; have hs_ws := hb_ws.size; (try simp at hs_ws); (try have h1_ws : w.heap.size < ws.heap.size := by omega); (try have h3_ws : w.heap.size < ws.heap.size + 1 := by omega); (try have h4_ws : w.heap.size < ws.heap.size + 1 + 1 := by omega); (try have h5_ws : ¬ w.heap.size = ws.heap.size := by omega)))
  (refine wp_region_lead (fun _ => True) [3, 4, 5, 6] [0, 1, 2, 3, 4, 5, 6] _ (by kernel_rfl) (by kernel_rfl) (by kernel_rfl) (by simp only [List.filterMap_cons, List.getElem?_cons_zero, List.getElem?_cons_succ, Option.map_some, List.filterMap_nil]; rfl) rfl rfl trivial ?_)
  (refine lead_quiet_n 3 rfl trivial ?_); (intro _); (simp only [List.take_succ_cons, List.take_zero, List.drop_succ_cons, List.drop_zero, List.map_cons, List.map_nil]); (repeat (go_big_quiet_step (fail))); (refine wpQuiet_nil ?_)
  (refine lead_list_n 4 rfl ?_); (simp only [List.take_succ_cons, List.take_zero, List.drop_succ_cons, List.drop_zero, List.map_cons, List.map_nil])
  go_wp2_with (go_at_call 59; (refine (concat_any (a1 := some ⟨ws.heap.size, 0, none⟩) (a2 := some ⟨w.heap.size, 5, none⟩) (c1 := 5) (c2 := 48) (n1 := 5) (n2 := 48) (xs := [x, y, z, u, E]) (ys := zs) _ ?k0 ?k1 ?k2 ?k3 ?k4 ?k5 ?k6 ?k7).mono ?_); (case k4 => (intro h; cases h)); (case k5 => (intro h; cases h)); (case k6 => omega); (case k7 => omega); (case k0 => (repeat (first | (with_reducible assumption) | ((with_reducible refine cell_top ?_ rfl); first | (with_reducible rfl) | (simp; done)) | (with_reducible apply cell_drew) | (with_reducible apply cell_drewN) | ((with_reducible apply cell_keep); focus (with_reducible assumption)) | (with_reducible refine cell_keep (Aft.below _) ?_) | (with_reducible apply cell_set) | ((with_reducible apply cell_off); focus (decide)) | ((with_reducible apply cell_beside); focus (first | omega | (simp; done) | (simp; omega))) | ((with_reducible apply cell_under); focus (first | omega | (simp; done) | (simp; omega)))))); (case k1 => (repeat (first | (with_reducible assumption) | ((with_reducible refine cell_top ?_ rfl); first | (with_reducible rfl) | (simp; done)) | (with_reducible apply cell_drew) | (with_reducible apply cell_drewN) | ((with_reducible apply cell_keep); focus (with_reducible assumption)) | (with_reducible refine cell_keep (Aft.below _) ?_) | (with_reducible apply cell_set) | ((with_reducible apply cell_off); focus (decide)) | ((with_reducible apply cell_beside); focus (first | omega | (simp; done) | (simp; omega))) | ((with_reducible apply cell_under); focus (first | omega | (simp; done) | (simp; omega)))))); (case k2 => exact BytesAt.below (bytes_topU (w := ws) (cs := #[.int .u8 x, .int .u8 y, .int .u8 z, .int .u8 u, .int .u8 E]) (E := 130) (fr := (0, 0)) [x, y, z, u, E] rfl rfl hv5 (by simp)) (by (repeat' (first | (with_reducible exact Below.refl _ _) | (with_reducible assumption) | (with_reducible refine below_drewN ?_ _) | (with_reducible refine Below.drew ?_) | ((with_reducible refine Below.alloc ?_ ?_ _); (rotate_left; focus (first | omega | (simp; done) | (simp; omega)))) | ((with_reducible refine Below.setCell ?_ ?_ _); (rotate_left; focus (first | omega | (simp; done) | (simp; omega)))) | (with_reducible refine Below.grown ?_ (by assumption) (by first | omega | (simp; omega)) (by simp [Value.ownBlock]; try omega)) | (with_reducible refine below_then ?_ (Aft.below _)) | (with_reducible apply below_then; rotate_left; assumption))))); (case k3 => exact row.below (by (repeat' (first | (with_reducible exact Below.refl _ _) | (with_reducible assumption) | (with_reducible refine below_drewN ?_ _) | (with_reducible refine Below.drew ?_) | ((with_reducible refine Below.alloc ?_ ?_ _); (rotate_left; focus (first | omega | (simp; done) | (simp; omega)))) | ((with_reducible refine Below.setCell ?_ ?_ _); (rotate_left; focus (first | omega | (simp; done) | (simp; omega)))) | (with_reducible refine Below.grown ?_ (by assumption) (by first | omega | (simp; omega)) (by simp [Value.ownBlock]; try omega)) | (with_reducible refine below_then ?_ (Aft.below _)) | (with_reducible apply below_then; rotate_left; assumption))))); rintro e wc ⟨v, rfl, own, hb_wc⟩)
  (refine ⟨rfl, ?_⟩); (refine lead_nil ?_)
  have hBc : Below w.heap.size w wc := by (repeat' (first | (with_reducible exact Below.refl _ _) | (with_reducible assumption) | (with_reducible refine below_drewN ?_ _) | (with_reducible refine Below.drew ?_) | ((with_reducible refine Below.alloc ?_ ?_ _); (rotate_left; focus (first | omega | (simp; done) | (simp; omega)))) | ((with_reducible refine Below.setCell ?_ ?_ _); (rotate_left; focus (first | omega | (simp; done) | (simp; omega)))) | (with_reducible refine Below.grown ?_ (by assumption) (by first | omega | (simp; omega)) (by simp [Value.ownBlock]; try omega)) | (with_reducible refine below_then ?_ (Aft.below _)) | (with_reducible apply below_then; rotate_left; assumption)))
  go_wp2
  go_ret2
  exact ⟨_, rfl, own.base (by simp; omega), hBc⟩
theorem cellBuild_no (g p c t l : Int) (nni : Bool) (P : List Value) (w : World) (hr : rightH nni g p c t l = false) (hP : P.length = 48) :
    Calls Tryz.prog 34 #[.agg (hdr5 g p c t l ++ P).toArray, .bool nni] w fun e w' => e = .returned (.tuple #[.slice none 0 0, .int .i64 1]) ∧ Below w.heap.size w w' := by
  have hsz : (hdr5 g p c t l ++ P).toArray.size = 53 := by simp [hP]
  obtain ⟨X, hX⟩ : ∃ X, X = (hdr5 g p c t l ++ P).toArray := ⟨_, rfl⟩
  rw [← hX] at hsz ⊢
  obtain ⟨y0, y1, y2, y3, y4⟩ := hdr_at hX hsz
  clear hX
  go_enter Tryz.func34, Tryz.ntmps34
  go_wp2_with (go_at_call 57; refine (pack_no g p c t l nni _ hr).mono ?_; rintro e wp ⟨rfl, hb_wp⟩; obtain ⟨hc_wp, hf_wp⟩ := bcell hb_wp; have hs_wp := hb_wp.size; (try simp at hs_wp); (try have h1_wp : w.heap.size < wp.heap.size := by omega); (try have h3_wp : w.heap.size < wp.heap.size + 1 := by omega); (try have h4_wp : w.heap.size < wp.heap.size + 1 + 1 := by omega); (try have h5_wp : ¬ w.heap.size = wp.heap.size := by omega))
  go_ret2
  exact ⟨rfl, by (repeat' (first | (with_reducible exact Below.refl _ _) | (with_reducible assumption) | (with_reducible refine below_drewN ?_ _) | (with_reducible refine Below.drew ?_) | ((with_reducible refine Below.alloc ?_ ?_ _); (rotate_left; focus (first | omega | (simp; done) | (simp; omega)))) | ((with_reducible refine Below.setCell ?_ ?_ _); (rotate_left; focus (first | omega | (simp; done) | (simp; omega)))) | (with_reducible refine Below.grown ?_ (by assumption) (by first | omega | (simp; omega)) (by simp [Value.ownBlock]; try omega)) | (with_reducible refine below_then ?_ (Aft.below _)) | (with_reducible apply below_then; rotate_left; assumption)))⟩
end Go.Proofs.YtaoagbnhomjkpaaGreat

/- A region that draws its order, in which one operation may come at any time ahead of another one: the walk parts at each operation that stands alone but for it. -/
namespace Go.Proofs.YtaoagbnhomjkpaaGreat
set_option linter.unusedVariables false
set_option linter.unusedSimpArgs false
open Go.RowKit
section
variable {P : Program} {ops : Array Oper} {md : Region.Mode} {S : World → Prop}
/-- the order of ours, while f is still to come; stop waits for it. -/
def floatB (md : Region.Mode) (ops : Array Oper) (rigid : Nat → Bool) (f stop : Nat) : List Nat → Array Bool → Bool
  | [], _ => false
  | k :: rest, listed =>
    if rigid k then
      !(Region.ready md ops listed).isEmpty && (Region.ready md ops listed).all (fun j => j == f || (j == k && k != stop)) && leadB md ops rigid (k :: rest) (listed.setIfInBounds f true)
        && (k == stop || floatB md ops rigid f stop rest (listed.setIfInBounds k true))
    else (Region.ready md ops listed).contains k && Region.free md ops listed k && floatB md ops rigid f stop rest (listed.setIfInBounds k true)
def wpFloat (P : Program) (ops : Array Oper) (rigid : Nat → Bool) (S : World → Prop) (Q : Act → World → Prop) (f : Oper) (stop : Nat) : List (Nat × Oper) → Act → World → Prop
  | [], _, _ => False
  | (k, o) :: rest, a, w =>
    if rigid k then
      f.wp P a w (fun a' w' => S w' ∧ wpLead P ops rigid S Q ((k, o) :: rest) a' w') (onlyN fun _ _ _ => False) ∧
        (k = stop ∨ (if Region.wanted o (yielded ops a.tmps) then o.wp P a w (fun a' w' => S w' ∧ wpFloat P ops rigid S Q f stop rest a' w') (onlyN fun _ _ _ => False) else wpFloat P ops rigid S Q f stop rest (a.put o.dst undef) w))
    else ∃ v, YieldsIf P ops S o v a ∧ wpFloat P ops rigid S Q f stop rest (a.put o.dst v) w
theorem oper_onlyN {Q : Exit → Act → World → Prop} {o : Oper} {a : Act} {w : World} {K K' : Act → World → Prop} (hk : ∀ a w, K a w → K' a w) (h : o.wp P a w K (onlyN fun _ _ _ => False)) : o.wp P a w K' (onlyN Q) := by
  unfold Oper.wp at *
  generalize (execOp a.eval o).run P w = r at *
  cases r with
  | halt x w' =>
    cases x <;> simp only [Oper.upon] at h ⊢
    case panic v => cases h.1
  | ok n w' =>
    cases n <;> simp only [Oper.upon] at h ⊢
    case value v => exact hk _ _ h
    case skip => exact hk _ _ h
    case defer d => exact hk _ _ h
    case enter f args =>
      refine Calls.mono h fun e w'' he => ?_
      cases e with
      | returned v => exact hk _ _ he
      | panicked c => cases he.1
      | outgrown => exact (letsOut_onlyN he).elim
    case row row args => exact Rows.mono h fun u w'' he => hk _ _ he
theorem anyH_of_float {rigid : Nat → Bool} {Q : Exit → Act → World → Prop} {f : Nat} {fo : Oper} {stop : Nat} (hs : Region.noSelect ops = true) (hf : ops[f]? = some fo) (hfg : fo.guard = none) : ∀ (l : List (Nat × Oper)) (listed : Array Bool) (a : Act) (w : World), (∀ p ∈ l, ops[p.1]? = some p.2) →
    floatB md ops rigid f stop (l.map (·.1)) listed = true → S w → wpFloat P ops rigid S (fun a w => Q .normal a w) fo stop l a w → wpAnyH P md ops (onlyN Q) S (l.length + 1) listed a w
  | [], _, _, _, _, hB, _, _ => by simp [floatB] at hB
  | (k, o) :: l, listed, a, w, hl, hB, hS, h => by
    have h0 : ops[k]? = some o := hl (k, o) (by simp)
    have hl' : ∀ p ∈ l, ops[p.1]? = some p.2 := fun p hp => hl p (by simp [hp])
    simp only [List.map_cons] at hB
    unfold floatB at hB
    unfold wpFloat at h
    by_cases hlk : rigid k = true
    · simp only [hlk, if_true, Bool.and_eq_true, Bool.not_eq_true', Bool.or_eq_true] at hB
      simp only [hlk, if_true] at h
      obtain ⟨⟨⟨he, hall⟩, hlead⟩, hrest⟩ := hB
      obtain ⟨h1, h2⟩ := h
      refine wpAnyH_all (fuel := l.length + 1) rfl (by intro e; rw [e] at he; simp at he) fun j hj => ?_
      have hj' := List.all_eq_true.1 hall j hj
      simp only [Bool.or_eq_true, beq_iff_eq, Bool.and_eq_true] at hj'
      by_cases hjf : j = f
      · subst hjf
        unfold wpOp
        simp only [hf]
        rw [if_pos (by unfold Region.wanted; rw [hfg])]
        refine .inl (oper_onlyN (fun a' w' hk => ⟨hk.1, ?_⟩) h1)
        exact anyH_of_lead (Q := Q) hs ((k, o) :: l) (listed.setIfInBounds j true) a' w' hl hlead hk.1 hk.2
      · have hjk : j = k ∧ ¬ k = stop := by
          rcases hj' with hj' | ⟨h3, h4⟩
          · exact absurd hj' hjf
          · exact ⟨h3, by simpa using h4⟩
        obtain ⟨rfl, hns⟩ := hjk
        have h2 := h2.resolve_left hns
        have hrest := hrest.resolve_left (by simpa using hns)
        have ih := fun a' w' => anyH_of_float (Q := Q) hs hf hfg l (listed.setIfInBounds j true) a' w' hl' hrest
        unfold wpOp
        simp only [h0]
        split
        · rename_i hw
          simp only [hw, if_true] at h2
          exact .inl (oper_onlyN (fun a' w' hk => ⟨hk.1, ih _ _ hk.1 hk.2⟩) h2)
        · rename_i hw
          simp only [hw] at h2
          exact ⟨hS, ih _ _ hS h2⟩
    · have hlk' : rigid k = false := by simpa using hlk
      simp only [hlk', Bool.false_eq_true, if_false, Bool.and_eq_true] at hB h
      obtain ⟨⟨hr, hfr⟩, hB'⟩ := hB
      obtain ⟨v, hy, hK⟩ := h
      refine wpAnyH_first h0 (Region.noSelect_spec hs) (fun c a w hq => by cases hq.1) (l.length + 1) listed a w (Region.free_spec h0 hfr) (by simpa using hr) hy hS ?_
      exact anyH_of_float (Q := Q) hs hf hfg l (listed.setIfInBounds k true) _ w hl' hB' hS hK
/-- the region: ord is the order of all but f. -/
theorem wp_region_float {id : Nat} {Q : Exit → Act → World → Prop} {a : Act} {w : World} {l : List Oper} (S : World → Prop) (rigid ord : List Nat) (f stop : Nat) (fo : Oper) (L : List (Nat × Oper)) (hm : P.follows .mixedOrders = true)
    (hs : Region.noSelect l.toArray = true) (hB : floatB .any l.toArray (fun k => rigid.contains k) f stop ord (Array.replicate l.length false) = true) (hL : (ord.filterMap fun k => (l[k]?).map fun o => (k, o)) = L) (hn : L.map (·.1) = ord) (hlen : L.length + 1 = l.length) (hf : l[f]? = some fo) (hfg : fo.guard = none) (hS : S w.drew)
    (h : wpFloat P l.toArray (fun k => rigid.contains k) S (fun a w => Q .normal a w) fo stop L a w.drew) : (Code.region id l.toArray true).wp P Q a w := by
  have hmem : ∀ p ∈ L, l.toArray[p.1]? = some p.2 := by
    intro p hp
    rw [← hL, List.mem_filterMap] at hp
    obtain ⟨k, _, hk⟩ := hp
    cases hlk : l[k]? with
    | none => simp [hlk] at hk
    | some o =>
      simp [hlk] at hk
      subst hk
      simpa using hlk
  have h1 := anyH_of_float (md := .any) (Q := Q) hs (by simpa using hf) hfg L (Array.replicate l.length false) a w.drew hmem (by rw [hn]; exact hB) hS h
  refine wp_region_any hm (wpAny_onlyN _ _ _ _ (wpAny_of_held (S := S) _ _ _ _ ?_))
  rw [hlen] at h1
  simpa using h1
/-- a stretch of free operations, by the kit's quiet walk. -/
theorem float_quiet {rigid : Nat → Bool} {Q : Act → World → Prop} {fo : Oper} {stop : Nat} {w : World} {rest : List (Nat × Oper)} {C : World → Prop} (hSC : ∀ w, S w → C w) : ∀ (l : List (Nat × Oper)) (a : Act), (l.all fun p => !rigid p.1 && noCall p.2.op) = true →
    wpQuiet P ops C (fun a' => wpFloat P ops rigid S Q fo stop rest a' w) (l.map (·.2)) a → wpFloat P ops rigid S Q fo stop (l ++ rest) a w
  | [], _, _, h => h
  | (k, o) :: l, a, hl, h => by
    simp only [List.all_cons, Bool.and_eq_true, Bool.not_eq_true'] at hl
    show wpFloat P ops rigid S Q fo stop ((k, o) :: (l ++ rest)) a w
    unfold wpFloat
    simp only [hl.1.1, Bool.false_eq_true, if_false]
    rw [List.map_cons] at h
    unfold wpQuiet at h
    split at h
    · rename_i hw
      obtain ⟨v, hv, hk⟩ := h
      exact ⟨v, yieldsIf_of_quiet hl.1.2 hw hSC hv, float_quiet hSC l _ hl.2 hk⟩
    · rename_i hw
      exact ⟨undef, .inr ⟨by simpa using hw, rfl⟩, float_quiet hSC l _ hl.2 h⟩
theorem float_quiet_n {rigid : Nat → Bool} {Q : Act → World → Prop} {fo : Oper} {stop : Nat} {w : World} {L : List (Nat × Oper)} {a : Act} (n : Nat) (hl : ((L.take n).all fun p => !rigid p.1 && noCall p.2.op) = true)
    (hS : S w) (h : Nonempty (Wits S) → wpQuiet P ops (fun w' => ∃ g : Wits S, w' = g.w) (fun a' => wpFloat P ops rigid S Q fo stop (L.drop n) a' w) ((L.take n).map (·.2)) a) : wpFloat P ops rigid S Q fo stop L a w := by
  have := float_quiet (S := S) (rest := L.drop n) (fun w hS => ⟨⟨w, hS⟩, rfl⟩) (L.take n) a hl (h ⟨⟨w, hS⟩⟩)
  rwa [List.take_append_drop] at this
theorem wp_of_list {o : Oper} {a : Act} {w : World} {K : Act → World → Prop} (hg : o.guard = none) (h : wpList P ops (onlyN fun _ a' w' => K a' w') [o] a w) : o.wp P a w K (onlyN fun _ _ _ => False) := by
  unfold wpList at h
  rw [if_pos (by unfold Region.wanted; rw [hg])] at h
  rcases h with h | ⟨_, h⟩
  · unfold Oper.wp at *
    generalize (execOp a.eval o).run P w = r at *
    cases r with
    | halt x w' =>
      cases x <;> simp only [Oper.upon] at h ⊢
      case panic v => cases h.1
    | ok n w' =>
      cases n <;> simp only [Oper.upon] at h ⊢
      case value v => exact h.2
      case skip => exact h.2
      case defer d => exact h.2
      case enter f args =>
        refine Calls.mono h fun e w'' he => ?_
        cases e with
        | returned v => exact he.2
        | panicked c => cases he.1
        | outgrown => exact (letsOut_onlyN he).elim
      case row row args => exact Rows.mono h fun u w'' he => he.2
  · exact (letsOut_onlyN h).elim
/-- one that stands alone but for f: f now, or it. -/
theorem float_one {rigid : Nat → Bool} {Q : Act → World → Prop} {fo : Oper} {stop k : Nat} {o : Oper} {rest : List (Nat × Oper)} {a : Act} {w : World} (hl : rigid k = true) (hfg : fo.guard = none) (hg : o.guard = none)
    (h1 : wpList P ops (onlyN fun _ a' w' => S w' ∧ wpLead P ops rigid S Q ((k, o) :: rest) a' w') [fo] a w)
    (h2 : wpList P ops (onlyN fun _ a' w' => S w' ∧ wpFloat P ops rigid S Q fo stop rest a' w') [o] a w) : wpFloat P ops rigid S Q fo stop ((k, o) :: rest) a w := by
  unfold wpFloat
  simp only [hl, if_true]
  refine ⟨wp_of_list hfg h1, .inr ?_⟩
  rw [if_pos (by unfold Region.wanted; rw [hg])]
  exact wp_of_list hg h2
/-- the one that waits for f. -/
theorem float_stop {rigid : Nat → Bool} {Q : Act → World → Prop} {fo : Oper} {k : Nat} {o : Oper} {rest : List (Nat × Oper)} {a : Act} {w : World} (hl : rigid k = true) (hfg : fo.guard = none)
    (h1 : wpList P ops (onlyN fun _ a' w' => S w' ∧ wpLead P ops rigid S Q ((k, o) :: rest) a' w') [fo] a w) : wpFloat P ops rigid S Q fo k ((k, o) :: rest) a w := by
  unfold wpFloat
  simp only [hl, if_true]
  exact ⟨wp_of_list hfg h1, .inl trivial⟩
end
end Go.Proofs.YtaoagbnhomjkpaaGreat

/- A floating operation: the free ones may be nil checks, too. -/
namespace Go.Proofs.YtaoagbnhomjkpaaGreat
set_option linter.unusedVariables false
set_option linter.unusedSimpArgs false
open Go.RowKit
theorem bind_all {α : Type} {P : Program} {s : Sem α} {f : α → Sem Next} (h : ∀ a w n w', (f a).run P w = .ok n w' → ∃ u, n = .value u) {w w' : World} {n : Next} (hh : (s >>= f).run P w = .ok n w') : ∃ u, n = .value u := by
  rw [Sem.run_bind] at hh
  generalize s.run P w = r at hh
  cases r with
  | halt x w1 => simp at hh
  | ok a w1 => exact h a _ _ _ (by simpa using hh)
/-- an operation that enters no function, a nil check and a build among them. -/
def noCallB : Op → Bool
  | .build .. => true
  | .sliceToArrayPointer .. => true
  | .nilCheck .. => true
  | o => noCall o
theorem noCallB_value {o : Oper} {ρ : Operand → Value} {P : Program} {w w' : World} {n : Next} (hp : noCallB o.op = true) (h : (execOp ρ o).run P w = .ok n w') : ∃ u, n = .value u := by
  by_cases hn : noCall o.op = true
  · exact noCall_value hn h
  · unfold execOp at h
    cases ho : o.op <;> simp only [ho, noCallB, noCall, Bool.false_eq_true, not_true_eq_false] at hp hn h
    case nilCheck x =>
      split at h
      · exact absurd h (by simp [go_sem, runtimePanic])
      · exact absurd h (by simp [go_sem, runtimePanic])
      · exact absurd h (by simp [go_sem, runtimePanic])
      · split at h
        · exact absurd h (by simp [go_sem, runtimePanic])
        · refine bind_all (fun _ _ _ _ h1 => bind_all (fun _ _ _ _ h2 => ?_) h1) h
          split at h2
          · refine bind_all (fun _ _ _ _ h3 => ?_) h2
            simp [go_sem] at h3; exact ⟨_, h3.1.symm⟩
          · simp [go_sem] at h2; exact ⟨_, h2.1.symm⟩
        · simp [go_sem] at h; exact ⟨_, h.1.symm⟩
      · simp [go_sem] at h; exact ⟨_, h.1.symm⟩
    all_goals exact bind_value h
section
variable {P : Program} {ops : Array Oper} {md : Region.Mode} {S : World → Prop}
theorem yieldsIf_of_quietB {o : Oper} {a : Act} {v : Value} {C : World → Prop} (hp : noCallB o.op = true) (hw : Region.wanted o (yielded ops a.tmps) = true) (hSC : ∀ w, S w → C w) (h : ∀ w, C w → o.quietAt P a C w v) : YieldsIf P ops S o v a := by
  refine .inl ⟨hw, fun w hS => ?_⟩
  have h1 := h w (hSC w hS)
  unfold Oper.quietAt at h1
  generalize hr : (execOp a.eval o).run P w = r at *
  cases r with
  | halt x w' => exact h1.elim
  | ok n w' =>
    obtain ⟨u, rfl⟩ := noCallB_value hp hr
    obtain ⟨rfl, rfl⟩ := h1
    rfl
theorem float_quietB {rigid : Nat → Bool} {Q : Act → World → Prop} {fo : Oper} {stop : Nat} {w : World} {rest : List (Nat × Oper)} {C : World → Prop} (hSC : ∀ w, S w → C w) : ∀ (l : List (Nat × Oper)) (a : Act), (l.all fun p => !rigid p.1 && noCallB p.2.op) = true →
    wpQuiet P ops C (fun a' => wpFloat P ops rigid S Q fo stop rest a' w) (l.map (·.2)) a → wpFloat P ops rigid S Q fo stop (l ++ rest) a w
  | [], _, _, h => h
  | (k, o) :: l, a, hl, h => by
    simp only [List.all_cons, Bool.and_eq_true, Bool.not_eq_true'] at hl
    show wpFloat P ops rigid S Q fo stop ((k, o) :: (l ++ rest)) a w
    unfold wpFloat
    simp only [hl.1.1, Bool.false_eq_true, if_false]
    rw [List.map_cons] at h
    unfold wpQuiet at h
    split at h
    · rename_i hw
      obtain ⟨v, hv, hk⟩ := h
      exact ⟨v, yieldsIf_of_quietB hl.1.2 hw hSC hv, float_quietB hSC l _ hl.2 hk⟩
    · rename_i hw
      exact ⟨undef, .inr ⟨by simpa using hw, rfl⟩, float_quietB hSC l _ hl.2 h⟩
theorem float_quietB_n {rigid : Nat → Bool} {Q : Act → World → Prop} {fo : Oper} {stop : Nat} {w : World} {L : List (Nat × Oper)} {a : Act} (n : Nat) (hl : ((L.take n).all fun p => !rigid p.1 && noCallB p.2.op) = true)
    (hS : S w) (h : Nonempty (Wits S) → wpQuiet P ops (fun w' => ∃ g : Wits S, w' = g.w) (fun a' => wpFloat P ops rigid S Q fo stop (L.drop n) a' w) ((L.take n).map (·.2)) a) : wpFloat P ops rigid S Q fo stop L a w := by
  have := float_quietB (S := S) (rest := L.drop n) (fun w hS => ⟨⟨w, hS⟩, rfl⟩) (L.take n) a hl (h ⟨⟨w, hS⟩⟩)
  rwa [List.take_append_drop] at this
/-- a cut behind a piece of code whose frame hangs on two numbers. -/
def CutQ2 (fr : Nat → Nat → Act) (R : Nat → Nat → World → Prop) : Exit → Act → World → Prop := fun e a w => ∃ b c, e = .normal ∧ a = fr b c ∧ R b c w
theorem wp_cut_frame2 {P : Program} {c : Code} {Q : Exit → Act → World → Prop} {a : Act} {w : World} (R : Nat → Nat → World → Prop) (h : ∃ fr, c.wp P (CutQ2 fr R) a w ∧ ∀ b d w', R b d w' → Q .normal (fr b d) w') : c.wp P Q a w := by
  obtain ⟨fr, h1, h2⟩ := h
  refine Code.wp_mono ?_ h1
  rintro e a' w' ⟨b, d, rfl, rfl, hR⟩
  exact h2 b d w' hR
/-- .. on three. -/
def CutQ3 (fr : Nat → Nat → Nat → Act) (R : Nat → Nat → World → Prop) : Exit → Act → World → Prop := fun e a w => ∃ b c d, e = .normal ∧ a = fr b c d ∧ R b c w
theorem wp_cut_frame3 {P : Program} {c : Code} {Q : Exit → Act → World → Prop} {a : Act} {w : World} (R : Nat → Nat → World → Prop) (h : ∃ fr, c.wp P (CutQ3 fr R) a w ∧ ∀ b d f w', R b d w' → Q .normal (fr b d f) w') : c.wp P Q a w := by
  obtain ⟨fr, h1, h2⟩ := h
  refine Code.wp_mono ?_ h1
  rintro e a' w' ⟨b, d, f, rfl, rfl, hR⟩
  exact h2 b d f w' hR
end
end Go.Proofs.YtaoagbnhomjkpaaGreat

/- A region that ends in a store: builds and nil checks among its quiet operations. -/
namespace Go.Proofs.YtaoagbnhomjkpaaGreat
set_option linter.unusedVariables false
set_option linter.unusedSimpArgs false
open Go.RowKit
theorem still_of_quietB {P : Program} {ops : Array Oper} {w : World} {Q : Act → Prop} : ∀ (l : List Oper) (a : Act), (l.all fun o => noCallB o.op) = true → wpQuiet P ops (fun w' => ∃ _ : Unit, w' = w) Q l a → wpStill P ops w Q l a
  | [], _, _, h => h
  | o :: l, a, hl, h => by
    simp only [List.all_cons, Bool.and_eq_true] at hl
    unfold wpQuiet at h
    unfold wpStill
    split
    · rename_i hw
      simp only [hw, if_true] at h
      obtain ⟨v, hv, hk⟩ := h
      have h1 := hv w ⟨(), rfl⟩
      unfold Oper.quietAt at h1
      unfold Oper.still
      generalize hr : (execOp a.eval o).run P w = r at *
      cases r with
      | halt x w' => exact h1.elim
      | ok n w' =>
        obtain ⟨u, rfl⟩ := noCallB_value hl.1 hr
        obtain ⟨rfl, rfl⟩ := h1
        exact ⟨rfl, still_of_quietB l _ hl.2 hk⟩
    · rename_i hw
      simp only [hw] at h
      exact still_of_quietB l _ hl.2 h
theorem region_tail_b {P : Program} {id : Nat} {Q : Exit → Act → World → Prop} {a : Act} {w : World} {l : List Oper} (n : Nat) (hm : P.follows .mixedOrders = true) (hB : Region.lexTailB .any l.toArray n = true) (hl : ((l.take n).all fun o => noCallB o.op) = true)
    (h : wpQuiet P l.toArray (fun w' => ∃ _ : Unit, w' = w.drew) (fun a' => wpList P l.toArray Q (l.drop n) a' w.drew) (l.take n) a) : (Code.region id l.toArray true).wp P Q a w :=
  wp_region_still_tail n hm hB (still_of_quietB _ _ hl h)
end Go.Proofs.YtaoagbnhomjkpaaGreat

/- The walk of cell.Parse. -/
namespace Go.Proofs.YtaoagbnhomjkpaaGreat
set_option linter.unusedVariables false
set_option linter.unusedSimpArgs false
open Go.RowKit
set_option maxRecDepth 100000
set_option maxHeartbeats 4000000
theorem takes_len {c : Bool} {zs : List Int} (h : zs.length = 5) : (takes c zs).length = 4 := by
  unfold takes
  split
  · simp [h]
  · split
    · simp [flip_len, h]
    · rfl
theorem takes_four {c : Bool} {zs : List Int} (h : zs.length = 5) : ∃ x y z u, takes c zs = [x, y, z, u] := by
  have h4 := takes_len (c := c) h
  match takes c zs, h4 with
  | [x, y, z, u], _ => exact ⟨x, y, z, u, rfl⟩
theorem takes_B {c : Bool} {zs : List Int} (hb : allB zs) : allB (takes c zs) := by
  unfold takes
  split
  · exact fun z hz => hb z (List.mem_of_mem_take hz)
  · split
    · exact fun z hz => flip_B hb _ z (List.mem_of_mem_take hz)
    · intro z hz; simp at hz; subst hz; unfold isB; omega
theorem oneIf_bd (b : Bool) : 0 ≤ oneIf b ∧ oneIf b ≤ 1 := by cases b <;> decide
theorem chg_back {b B : Nat} {w0 w w' : World} (h : Chg b w w') (h0 : Below B w0 w) (hb : B ≤ b) (hB : B ≤ w.heap.size) : Below B w0 w' := h0.trans (h.below hb hB)
theorem und46 : ∃ d, Tryz.prog.underlying 58 = some d ∧ d.isRow = true := ⟨_, by simp [go_sem]; rfl, rfl⟩
theorem siz46 : (Tryz.prog.info? 58).map (·.size) = some 53 := by kernel_rfl
theorem load46 {w : World} {b : Nat} {cs : List Value} (h : w.rangeAt b 0 cs) (hl : cs.length = 53) : (loadVar 58 ⟨b, 0, none⟩).run Tryz.prog w = .ok (.agg cs.toArray) w := by
  obtain ⟨d, h1, h2⟩ := und46
  exact run_loadVar_mid w b 0 _ cs d h h1 h2 (by rw [siz46, hl])
theorem there_new {w : World} {C : Array Value} {E : TypeId} {b n : Nat} (hb : b = w.heap.size) (hC : C.size = n) : (w.alloc (.cells C E)).there b 0 n := fun j hj => by
  subst hb
  refine ⟨?_, frozen_top rfl⟩
  rw [cell_top (v := C[0 + j]'(by omega)) rfl (by rw [Array.getElem?_eq_getElem])]
  rfl
theorem there_chg {p b o n : Nat} {w w' : World} (h : Chg p w w') (hk : b ≠ p) (ht : w.there b o n) : w'.there b o n := fun j hj => by
  obtain ⟨h1, h2⟩ := ht j hj
  obtain ⟨u, hu⟩ := Option.isSome_iff_exists.1 h1
  have hb := h.block b (World.block_lt_of_cell? w _ hu) hk
  exact ⟨by rw [World.cell?_of_block (w := w) hb]; exact h1, by rw [World.frozen?_of_block (w := w) hb]; exact h2⟩
theorem there_below {b o n : Nat} {w w' : World} (ht : w.there b o n) (h : Below w.heap.size w w') : w'.there b o n := fun j hj => by
  obtain ⟨h1, h2⟩ := ht j hj
  obtain ⟨u, hu⟩ := Option.isSome_iff_exists.1 h1
  have hb := h.block b (World.block_lt_of_cell? w _ hu)
  exact ⟨by rw [World.cell?_of_block (w := w) hb]; exact h1, by rw [World.frozen?_of_block (w := w) hb]; exact h2⟩
theorem there_drew {b o n : Nat} {w : World} (ht : w.there b o n) : w.drew.there b o n := (World.there_drew _ _ _ _).2 ht
theorem there_setCell {b o n : Nat} {w : World} (ht : w.there b o n) (p : Addr) (v : Value) : (w.setCell p v).there b o n := fun j hj =>
  ⟨by
    by_cases hp : p = ⟨b, o + j, none⟩
    · subst hp; rw [World.cell?_setCell_same' _ _ _ (ht j hj).1]; rfl
    · rw [World.cell?_setCell_other (h := hp)]; exact (ht j hj).1, by rw [World.frozen?_setCell]; exact (ht j hj).2⟩
/-- a cell's value. -/
abbrev cellV (g p c t l : Int) (zs : List Int) : List Value := hdr5 g p c t l ++ u8s zs
abbrev noCell : List Value := cellV 0 0 0 0 0 (List.replicate 48 0)
theorem one_cellV (g p c t l : Int) (zs : List Int) : (cellV g p c t l zs).toArray.all (·.oneCell') = true := all_oneCell_toArray (fun v hv => by
  rcases List.mem_append.1 hv with h | h
  · simp only [hdr5, List.mem_cons, List.not_mem_nil, or_false] at h
    rcases h with h | h | h | h | h <;> (rw [h]; rfl)
  · obtain ⟨z, _, rfl⟩ := List.mem_map.1 h; rfl)
theorem results46 {fn : Func} {p u : Tmp} (h : fn.results = #[.cell p 58, .tmp u]) (tmps : Array Value) (w : World) {b : Nat} {cs : List Value} (hp : tmps.getD p undef = .pointer (some ⟨b, 0, none⟩)) (ht : w.there b 0 53) (hl : cs.length = 53) :
    (results fn tmps).run Tryz.prog (w.setCells b 0 cs) = .ok (.tuple #[.agg cs.toArray, tmps.getD u undef]) (w.setCells b 0 cs) :=
  results_ct h tmps _ hp (load46 (World.rangeAt_setCells_same _ _ _ _ (by rw [hl]; exact ht)) hl)
theorem cellParse_short (a : Option Addr) (len cap : Nat) (B : Value) (nni : Bool) (w : World) (h : len < 53) :
    Calls Tryz.prog 16 #[.slice a len cap, B, .bool nni] w fun e w' => e = .returned (.tuple #[.agg noCell.toArray, .int .i64 2]) ∧ Below w.heap.size w w' := by
  have h1 : (len : Int) < 53 := by omega
  go_enter Tryz.func16, Tryz.ntmps16
  go_wp2_with (refine wpList_store_mid (cells := noCell.toArray) ?sgd 58 (.tmp 6) (.tmp 16) ?sho w.heap.size 0 ?shx ?shy ?sht ?shi (one_cellV _ _ _ _ _ _) ?_; (case sho => rfl); (case sgd => rfl); (case shx => rfl); (case shy => rfl); (case sht => exact there_new rfl rfl); (case shi => (rw [siz46]; rfl)))
  refine bodyPost_ret (results46 rfl _ _ rfl (there_new rfl rfl) rfl) rfl ⟨rfl, ?_⟩
  exact Below.setCells _ _ (by (repeat' (first | (with_reducible exact Below.refl _ _) | (with_reducible assumption) | (with_reducible refine below_drewN ?_ _) | (with_reducible refine Below.drew ?_) | ((with_reducible refine Below.alloc ?_ ?_ _); (rotate_left; focus (first | omega | (simp; done) | (simp; omega)))) | ((with_reducible refine Below.setCell ?_ ?_ _); (rotate_left; focus (first | omega | (simp; done) | (simp; omega)))) | (with_reducible refine Below.grown ?_ (by assumption) (by first | omega | (simp; omega)) (by simp [Value.ownBlock]; try omega)) | (with_reducible refine below_then ?_ (Aft.below _)) | (with_reducible apply below_then; rotate_left; assumption)))) (Nat.le_refl _)
theorem cellParse_long (a : Option Addr) (len cap : Nat) (B : Value) (nni : Bool) (w : World) (h : 53 < len) :
    Calls Tryz.prog 16 #[.slice a len cap, B, .bool nni] w fun e w' => e = .returned (.tuple #[.agg noCell.toArray, .int .i64 3]) ∧ Below w.heap.size w w' := by
  have h1 : ¬ (len : Int) < 53 := by omega
  have h2 : (53 : Int) < len := by omega
  go_enter Tryz.func16, Tryz.ntmps16
  go_wp2_with (refine wpList_store_mid (cells := noCell.toArray) ?sgd 58 (.tmp 6) (.tmp 21) ?sho w.heap.size 0 ?shx ?shy ?sht ?shi (one_cellV _ _ _ _ _ _) ?_; (case sho => rfl); (case sgd => rfl); (case shx => rfl); (case shy => rfl); (case sht => exact there_new rfl rfl); (case shi => (rw [siz46]; rfl)))
  refine bodyPost_ret (results46 rfl _ _ rfl (there_new rfl rfl) rfl) rfl ⟨rfl, ?_⟩
  exact Below.setCells _ _ (by (repeat' (first | (with_reducible exact Below.refl _ _) | (with_reducible assumption) | (with_reducible refine below_drewN ?_ _) | (with_reducible refine Below.drew ?_) | ((with_reducible refine Below.alloc ?_ ?_ _); (rotate_left; focus (first | omega | (simp; done) | (simp; omega)))) | ((with_reducible refine Below.setCell ?_ ?_ _); (rotate_left; focus (first | omega | (simp; done) | (simp; omega)))) | (with_reducible refine Below.grown ?_ (by assumption) (by first | omega | (simp; omega)) (by simp [Value.ownBlock]; try omega)) | (with_reducible refine below_then ?_ (Aft.below _)) | (with_reducible apply below_then; rotate_left; assumption)))) (Nat.le_refl _)
theorem BytesAt.five {w : World} {a : Option Addr} {zs : List Int} {n : Nat} {x y z u v : Int} (h : BytesAt w a n zs) (hn : 5 ≤ n) (h5 : zs.take 5 = [x, y, z, u, v]) : ∃ b off, a = some ⟨b, off, none⟩ ∧ b < w.heap.size ∧ (∀ q ∈ [x, y, z, u, v], 0 ≤ q ∧ q < 256) ∧
    w.cell? ⟨b, off, none⟩ = some (.int .u8 x) ∧ w.cell? ⟨b, off + 1, none⟩ = some (.int .u8 y) ∧ w.cell? ⟨b, off + 2, none⟩ = some (.int .u8 z) ∧ w.cell? ⟨b, off + 3, none⟩ = some (.int .u8 u) ∧ w.cell? ⟨b, off + 4, none⟩ = some (.int .u8 v) := by
  obtain ⟨b, off, rfl, hb, hc⟩ := h.cells (by omega)
  have e : ∀ k, k < 5 → zs[k]?.getD 0 = [x, y, z, u, v][k]?.getD 0 := fun k hk => by rw [← h5, List.getElem?_take_of_lt hk]
  have b0 := h.byte 0; have b1 := h.byte 1; have b2 := h.byte 2; have b3 := h.byte 3; have b4 := h.byte 4
  have c0 := hc 0 (by omega); have c1 := hc 1 (by omega); have c2 := hc 2 (by omega); have c3 := hc 3 (by omega); have c4 := hc 4 (by omega)
  rw [e 0 (by omega)] at b0 c0; rw [e 1 (by omega)] at b1 c1; rw [e 2 (by omega)] at b2 c2; rw [e 3 (by omega)] at b3 c3; rw [e 4 (by omega)] at b4 c4
  refine ⟨b, off, rfl, hb, fun q hq => ?_, c0, c1, c2, c3, c4⟩
  simp only [List.mem_cons, List.not_mem_nil, or_false] at hq
  rcases hq with rfl | rfl | rfl | rfl | rfl
  · exact b0
  · exact b1
  · exact b2
  · exact b3
  · exact b4
theorem recAt_setCells {p b : Nat} {r d : Int} {c : Bool} : ∀ (vs : List Value) (o : Nat) {w : World}, RecAt w p r d c → p ≠ b → RecAt (w.setCells b o vs) p r d c
  | [], _, _, h, _ => h
  | v :: rest, o, w, h, hb => recAt_setCells rest (o + 1) (h.beside hb) hb
theorem cellParse_drop (p : Nat) (r d : Int) (c : Bool) (a : Option Addr) (cap : Nat) (zs : List Int) (nni : Bool) (w : World) (h : RecAt w p r d c) (r0 : 0 ≤ r) (r1 : r ≤ 1000000) (d0 : 0 ≤ d) (d1 : d ≤ 1000000) (hz : BytesAt w a 53 zs) (hc1 : 53 ≤ cap) (hc2 : cap ≤ 9223372036854775807) (hn : ∀ b off, a = some ⟨b, off, none⟩ → b ≠ p)
    (hd : drops c (zs.take 5) = true) :
    Calls Tryz.prog 16 #[.slice a 53 cap, .pointer (some ⟨p, 0, none⟩), .bool nni] w fun e w' => e = .returned (.tuple #[.agg noCell.toArray, .int .i64 4]) ∧ RecAt w' p (r + oneIf (fixes c (zs.take 5))) (d + oneIf (drops c (zs.take 5))) (synd (zs.take 5) != 0) ∧ Chg p w w' := by
  have hl := hz.length
  obtain ⟨x, y, z, u, v, h5⟩ : ∃ x y z u v, zs.take 5 = [x, y, z, u, v] := by
    have h5 : (zs.take 5).length = 5 := by simp; omega
    match zs.take 5, h5 with
    | [x, y, z, u, v], _ => exact ⟨x, y, z, u, v, rfl⟩
  obtain ⟨b, off, rfl, hb, hv, k0, k1, k2, k3, k4⟩ := hz.five (by omega) h5
  have hbp : b ≠ p := hn b off rfl
  have hpw := h.lt
  rw [h5] at hd ⊢
  obtain ⟨F, hF⟩ : ∃ F, fixes c [x, y, z, u, v] = F := ⟨_, rfl⟩
  obtain ⟨S, hS⟩ : ∃ S, (synd [x, y, z, u, v] != 0) = S := ⟨_, rfl⟩
  obtain ⟨t0, t1, t2, t3, hT⟩ := takes_four (c := c) (zs := [x, y, z, u, v]) rfl
  rw [hF, hS, hd]
  have HF := Lib.hid hF
  have HS := Lib.hid hS
  have HD := Lib.hid hd
  have HT := Lib.hid hT
  have ha5 := arrB5
  clear hF hS hd hT h5
  go_enter Tryz.func16, Tryz.ntmps16
  go_wp2_with (first | (go_at_call 46; (refine (take_any p r d c x y z u v _ (h.below ?q0) r0 r1 d0 d1 hv).mono ?_); (case q0 => (repeat' (first | (with_reducible exact Below.refl _ _) | (with_reducible assumption) | (with_reducible refine below_drewN ?_ _) | (with_reducible refine Below.drew ?_) | ((with_reducible refine Below.alloc ?_ ?_ _); (rotate_left; focus (first | omega | (simp; done) | (simp; omega)))) | ((with_reducible refine Below.setCell ?_ ?_ _); (rotate_left; focus (first | omega | (simp; done) | (simp; omega)))) | (with_reducible refine Below.grown ?_ (by assumption) (by first | omega | (simp; omega)) (by simp [Value.ownBlock]; try omega)) | (with_reducible refine below_then ?_ (Aft.below _)) | (with_reducible apply below_then; rotate_left; assumption)))); rw [HF.out, HD.out, HS.out, HT.out, show agg4 [t0, t1, t2, t3] = .agg #[.int .u8 t0, .int .u8 t1, .int .u8 t2, .int .u8 t3] from rfl]; rintro e wt ⟨rfl, hR, hC⟩; have hs_wt := hC.size; (try simp at hs_wt); have hth : wt.there w.heap.size 0 53 := there_chg hC (by omega) (there_new rfl rfl)) | (refine wpList_store_mid (cells := noCell.toArray) ?sgd 58 (.tmp 6) (.tmp 33) ?sho w.heap.size 0 ?shx ?shy ?sht ?shi (one_cellV _ _ _ _ _ _) ?_; (case sho => rfl); (case sgd => rfl); (case shx => rfl); (case shy => rfl); (case sht => (show World.there _ _ _ 53; (repeat (first | (with_reducible assumption) | (with_reducible refine there_drew ?_) | (with_reducible refine World.there_alloc ?_ _) | (with_reducible refine there_setCell ?_ _ _) | (with_reducible refine there_below ?_ (by assumption)) | exact there_new rfl rfl)))); (case shi => (rw [siz46]; rfl))))
  have hCp : Chg p w wt := (Chg.of (by (repeat' (first | (with_reducible exact Below.refl _ _) | (with_reducible assumption) | (with_reducible refine below_drewN ?_ _) | (with_reducible refine Below.drew ?_) | ((with_reducible refine Below.alloc ?_ ?_ _); (rotate_left; focus (first | omega | (simp; done) | (simp; omega)))) | ((with_reducible refine Below.setCell ?_ ?_ _); (rotate_left; focus (first | omega | (simp; done) | (simp; omega)))) | (with_reducible refine Below.grown ?_ (by assumption) (by first | omega | (simp; omega)) (by simp [Value.ownBlock]; try omega)) | (with_reducible refine below_then ?_ (Aft.below _)) | (with_reducible apply below_then; rotate_left; assumption))))).trans hC
  refine bodyPost_ret (results46 rfl _ _ rfl ?_ rfl) rfl ⟨rfl, ?_, ?_⟩
  · (repeat (first | (with_reducible assumption) | (with_reducible refine there_drew ?_) | (with_reducible refine World.there_alloc ?_ _) | (with_reducible refine there_setCell ?_ _ _) | (with_reducible refine there_below ?_ (by assumption)) | exact there_new rfl rfl))
  · refine recAt_setCells _ _ ?_ (by omega)
    (repeat (first | (with_reducible assumption) | (with_reducible apply RecAt.set0) | (with_reducible apply RecAt.set1) | (with_reducible apply RecAt.set2) | ((with_reducible refine RecAt.beside ?_ ?_); (rotate_left; focus (first | omega | (simp; omega)))) | (with_reducible refine RecAt.alloc ?_ _) | (with_reducible refine RecAt.drewN ?_ _) | (with_reducible refine RecAt.drew ?_) | (with_reducible refine RecAt.below ?_ (by assumption))))
  · refine Chg.setCells _ _ ?_ (Nat.le_refl _)
    (repeat (first | (with_reducible exact Chg.refl _ _) | (with_reducible assumption) | (with_reducible refine Chg.setCell ?_ _ _) | ((with_reducible refine Chg.setNew ?_ ?_ _ _); (rotate_left; focus (first | omega | (simp; omega)))) | (with_reducible refine Chg.alloc ?_ _) | (with_reducible refine Chg.drewN ?_ _) | (with_reducible refine Chg.drew ?_) | (with_reducible refine Chg.then ?_ (by assumption))))
theorem take_nil0 (x y z u v : Int) (w : World) :
    Calls Tryz.prog 46 #[.pointer none, .agg #[.int .u8 x, .int .u8 y, .int .u8 z, .int .u8 u, .int .u8 v]] w fun e w' => e = .returned (.tuple #[.agg #[.int .u8 0, .int .u8 0, .int .u8 0, .int .u8 0], .bool false]) ∧ Below w.heap.size w w' := by
  go_enter Tryz.func46, Tryz.ntmps46
  go_wp2
  refine bodyPost_ret (results_ct rfl _ _ rfl (load_four ?_ ?_ ?_ ?_)) rfl ⟨rfl, ?_⟩
  · (repeat (first | (with_reducible assumption) | ((with_reducible refine cell_top ?_ rfl); first | (with_reducible rfl) | (simp; done)) | (with_reducible apply cell_drew) | (with_reducible apply cell_drewN) | (with_reducible apply cell_set) | ((with_reducible apply cell_off); focus (decide)) | ((with_reducible apply cell_beside); focus (first | omega | (simp; done) | (simp; omega))) | ((with_reducible apply cell_under); focus (first | (simp; done) | (simp; omega)))))
  · (repeat (first | (with_reducible assumption) | ((with_reducible refine cell_top ?_ rfl); first | (with_reducible rfl) | (simp; done)) | (with_reducible apply cell_drew) | (with_reducible apply cell_drewN) | (with_reducible apply cell_set) | ((with_reducible apply cell_off); focus (decide)) | ((with_reducible apply cell_beside); focus (first | omega | (simp; done) | (simp; omega))) | ((with_reducible apply cell_under); focus (first | (simp; done) | (simp; omega)))))
  · (repeat (first | (with_reducible assumption) | ((with_reducible refine cell_top ?_ rfl); first | (with_reducible rfl) | (simp; done)) | (with_reducible apply cell_drew) | (with_reducible apply cell_drewN) | (with_reducible apply cell_set) | ((with_reducible apply cell_off); focus (decide)) | ((with_reducible apply cell_beside); focus (first | omega | (simp; done) | (simp; omega))) | ((with_reducible apply cell_under); focus (first | (simp; done) | (simp; omega)))))
  · (repeat (first | (with_reducible assumption) | ((with_reducible refine cell_top ?_ rfl); first | (with_reducible rfl) | (simp; done)) | (with_reducible apply cell_drew) | (with_reducible apply cell_drewN) | (with_reducible apply cell_set) | ((with_reducible apply cell_off); focus (decide)) | ((with_reducible apply cell_beside); focus (first | omega | (simp; done) | (simp; omega))) | ((with_reducible apply cell_under); focus (first | (simp; done) | (simp; omega)))))
  · (repeat' (first | (with_reducible exact Below.refl _ _) | (with_reducible assumption) | (with_reducible refine below_drewN ?_ _) | (with_reducible refine Below.drew ?_) | ((with_reducible refine Below.alloc ?_ ?_ _); (rotate_left; focus (first | omega | (simp; done) | (simp; omega)))) | ((with_reducible refine Below.setCell ?_ ?_ _); (rotate_left; focus (first | omega | (simp; done) | (simp; omega)))) | (with_reducible refine Below.grown ?_ (by assumption) (by first | omega | (simp; omega)) (by simp [Value.ownBlock]; try omega)) | (with_reducible refine below_then ?_ (Aft.below _)) | (with_reducible apply below_then; rotate_left; assumption)))
theorem cellParse_nil (a : Option Addr) (cap : Nat) (zs : List Int) (nni : Bool) (w : World) (hz : BytesAt w a 53 zs) (hc1 : 53 ≤ cap) (hc2 : cap ≤ 9223372036854775807) :
    Calls Tryz.prog 16 #[.slice a 53 cap, .pointer none, .bool nni] w fun e w' => e = .returned (.tuple #[.agg noCell.toArray, .int .i64 4]) ∧ Below w.heap.size w w' := by
  have hl := hz.length
  obtain ⟨x, y, z, u, v, h5⟩ : ∃ x y z u v, zs.take 5 = [x, y, z, u, v] := by
    have h5 : (zs.take 5).length = 5 := by simp; omega
    match zs.take 5, h5 with
    | [x, y, z, u, v], _ => exact ⟨x, y, z, u, v, rfl⟩
  obtain ⟨b, off, rfl, hb, hv, k0, k1, k2, k3, k4⟩ := hz.five (by omega) h5
  have ha5 := arrB5
  clear h5
  go_enter Tryz.func16, Tryz.ntmps16
  go_wp2_with (first | (go_at_call 46; (refine (take_nil0 x y z u v _).mono ?_); rintro e wt ⟨rfl, hb_wt⟩; have hs_wt := hb_wt.size; (try simp at hs_wt); have hth : wt.there w.heap.size 0 53 := there_below (there_new rfl rfl) hb_wt) | (refine wpList_store_mid (cells := noCell.toArray) ?sgd 58 (.tmp 6) (.tmp 33) ?sho w.heap.size 0 ?shx ?shy ?sht ?shi (one_cellV _ _ _ _ _ _) ?_; (case sho => rfl); (case sgd => rfl); (case shx => rfl); (case shy => rfl); (case sht => (show World.there _ _ _ 53; (repeat (first | (with_reducible assumption) | (with_reducible refine there_drew ?_) | (with_reducible refine World.there_alloc ?_ _) | (with_reducible refine there_setCell ?_ _ _) | (with_reducible refine there_below ?_ (by assumption)) | exact there_new rfl rfl)))); (case shi => (rw [siz46]; rfl))))
  refine bodyPost_ret (results46 rfl _ _ rfl ?_ rfl) rfl ⟨rfl, ?_⟩
  · (repeat (first | (with_reducible assumption) | (with_reducible refine there_drew ?_) | (with_reducible refine World.there_alloc ?_ _) | (with_reducible refine there_setCell ?_ _ _) | (with_reducible refine there_below ?_ (by assumption)) | exact there_new rfl rfl))
  · exact Below.setCells _ _ (by (repeat' (first | (with_reducible exact Below.refl _ _) | (with_reducible assumption) | (with_reducible refine below_drewN ?_ _) | (with_reducible refine Below.drew ?_) | ((with_reducible refine Below.alloc ?_ ?_ _); (rotate_left; focus (first | omega | (simp; done) | (simp; omega)))) | ((with_reducible refine Below.setCell ?_ ?_ _); (rotate_left; focus (first | omega | (simp; done) | (simp; omega)))) | (with_reducible refine Below.grown ?_ (by assumption) (by first | omega | (simp; omega)) (by simp [Value.ownBlock]; try omega)) | (with_reducible refine below_then ?_ (Aft.below _)) | (with_reducible apply below_then; rotate_left; assumption)))) (Nat.le_refl _)
theorem BytesAt.chgU {w w' : World} {a : Option Addr} {len p : Nat} {zs : List Int} (h : BytesAt w a len zs) (hc : Chg p w w') (hn : ∀ b off, a = some ⟨b, off, none⟩ → b ≠ p) : BytesAt w' a len zs :=
  ⟨h.length, h.most, h.byte, fun hp => by
    obtain ⟨b, off, h1, h2, h3⟩ := h.cells hp
    exact ⟨b, off, h1, Nat.lt_of_lt_of_le h2 hc.size, fun k hk => hc.cell (hn b off h1) (h3 k hk)⟩⟩
theorem bytes_tail {w : World} {b off n m : Nat} {zs : List Int} (h : BytesAt w (some ⟨b, off, none⟩) n zs) (hm : m < n) : BytesAt w (some ⟨b, off + m, none⟩) (n - m) (zs.drop m) := by
  refine ⟨by rw [List.length_drop, h.length], by have := h.most; omega, fun k => ?_, fun _ => ?_⟩
  · rw [List.getElem?_drop]; exact h.byte _
  · obtain ⟨b', off', e, hb, hc⟩ := h.cells (by omega)
    injection e with e; injection e with e1 e2; subst e1; subst e2
    refine ⟨_, _, rfl, hb, fun k hk => ?_⟩
    have := hc (m + k) (by omega)
    rw [List.getElem?_drop, Nat.add_assoc]; exact this
theorem range_map {zs : List Int} {n : Nat} (hl : zs.length = n) : (List.range n).map (fun i => zs[i]?.getD 0) = zs := by
  apply List.ext_getElem?
  intro i
  rw [List.getElem?_map]
  by_cases h : i < n
  · rw [List.getElem?_range h]
    show some (zs[i]?.getD 0) = zs[i]?
    rw [List.getElem?_eq_getElem (by omega)]; rfl
  · rw [List.getElem?_eq_none (by simp; omega), List.getElem?_eq_none (by omega)]; rfl
theorem built46 (g p c t l : Int) (f : Nat → Int) : Tryz.prog.built 58 [(0, .agg #[.int .i64 g, .int .i64 p, .int .i64 c, .int .i64 t, .int .i64 l]), (1, .agg (u8s ((List.range 48).map f)).toArray)] = some (cellV g p c t l ((List.range 48).map f)).toArray := by kernel_rfl
theorem build46 (g p c t l : Int) {zs : List Int} (hl : zs.length = 48) (w : World) : (Instr.build 58 #[(0, .agg #[.int .i64 g, .int .i64 p, .int .i64 c, .int .i64 t, .int .i64 l]), (1, .agg (u8s zs).toArray)]).run Tryz.prog w = .ok (.agg (cellV g p c t l zs).toArray) w := by
  have h := built46 g p c t l (fun i => zs[i]?.getD 0)
  rw [range_map hl] at h
  exact run_build w _ _ _ h
theorem wpQuiet_build46 {ops : Array Oper} {C : World → Prop} {Q : Act → Prop} {a : Act} {o : Oper} {rest : List Oper} {x y : Operand} {g p c t l : Int} {zs : List Int} (hg : o.guard = none) (ho : o.op = .build 58 #[(0, x), (1, y)]) (hx : a.eval x = .agg #[.int .i64 g, .int .i64 p, .int .i64 c, .int .i64 t, .int .i64 l]) (hy : a.eval y = .agg (u8s zs).toArray)
    (hl : zs.length = 48) (h : wpQuiet Tryz.prog ops C Q rest (a.put o.dst (.agg (cellV g p c t l zs).toArray))) : wpQuiet Tryz.prog ops C Q (o :: rest) a := by
  refine wpQuiet_run hg (fun w hw => ?_) h
  unfold execOp
  simp only [ho, List.map_toArray, List.map_cons, List.map_nil, hx, hy, Sem.run_bind, Sem.run_pure, Result.andThen_ok, build46 g p c t l hl]
theorem cellParse_take (p : Nat) (r d : Int) (c : Bool) (a : Option Addr) (cap : Nat) (zs : List Int) (nni : Bool) (w : World) (h : RecAt w p r d c) (r0 : 0 ≤ r) (r1 : r ≤ 1000000) (d0 : 0 ≤ d) (d1 : d ≤ 1000000) (hz : BytesAt w a 53 zs) (hc1 : 53 ≤ cap) (hc2 : cap ≤ 9223372036854775807) (hn : ∀ b off, a = some ⟨b, off, none⟩ → b ≠ p)
    (hd : drops c (zs.take 5) = false) :
    Calls Tryz.prog 16 #[.slice a 53 cap, .pointer (some ⟨p, 0, none⟩), .bool nni] w fun e w' => e = .returned (.tuple #[.agg (cellV (uG nni (takes c (zs.take 5))) (uP nni (takes c (zs.take 5))) (uC (takes c (zs.take 5))) (uT (takes c (zs.take 5))) (uL (takes c (zs.take 5))) (zs.drop 5)).toArray, .int .i64 0]) ∧ RecAt w' p (r + oneIf (fixes c (zs.take 5))) (d + oneIf (drops c (zs.take 5))) (synd (zs.take 5) != 0) ∧ Chg p w w' := by
  have hl := hz.length
  obtain ⟨x, y, z, u, v, h5⟩ : ∃ x y z u v, zs.take 5 = [x, y, z, u, v] := by
    have h5 : (zs.take 5).length = 5 := by simp; omega
    match zs.take 5, h5 with
    | [x, y, z, u, v], _ => exact ⟨x, y, z, u, v, rfl⟩
  obtain ⟨b, off, rfl, hb, hv, k0, k1, k2, k3, k4⟩ := hz.five (by omega) h5
  have hbp : b ≠ p := hn b off rfl
  have hpw := h.lt
  rw [h5] at hd ⊢
  obtain ⟨F, hF⟩ : ∃ F, fixes c [x, y, z, u, v] = F := ⟨_, rfl⟩
  obtain ⟨S, hS⟩ : ∃ S, (synd [x, y, z, u, v] != 0) = S := ⟨_, rfl⟩
  obtain ⟨t0, t1, t2, t3, hT⟩ := takes_four (c := c) (zs := [x, y, z, u, v]) rfl
  rw [hF, hS, hd, hT]
  obtain ⟨G, hG⟩ : ∃ G, uG nni [t0, t1, t2, t3] = G := ⟨_, rfl⟩
  obtain ⟨P, hP⟩ : ∃ P, uP nni [t0, t1, t2, t3] = P := ⟨_, rfl⟩
  obtain ⟨C, hC0⟩ : ∃ C, uC [t0, t1, t2, t3] = C := ⟨_, rfl⟩
  obtain ⟨T, hT0⟩ : ∃ T, uT [t0, t1, t2, t3] = T := ⟨_, rfl⟩
  obtain ⟨L, hL0⟩ : ∃ L, uL [t0, t1, t2, t3] = L := ⟨_, rfl⟩
  obtain ⟨ps, hps⟩ : ∃ ps, zs.drop 5 = ps := ⟨_, rfl⟩
  have hpl : ps.length = 48 := by rw [← hps]; simp [hl]
  have hPS : BytesAt w (some ⟨b, off + 5, none⟩) 48 ps := by
    rw [← hps]; exact bytes_tail hz (by omega)
  have htb : ∀ q ∈ [t0, t1, t2, t3], 0 ≤ q ∧ q < 256 := by rw [← hT]; exact takes_B hv
  have E5 : Hid (uG nni [t0, t1, t2, t3] = G ∧ uP nni [t0, t1, t2, t3] = P ∧ uC [t0, t1, t2, t3] = C ∧ uT [t0, t1, t2, t3] = T ∧ uL [t0, t1, t2, t3] = L) := ⟨hG, hP, hC0, hT0, hL0⟩
  rw [hG, hP, hC0, hT0, hL0, hps]
  clear hG hP hC0 hT0 hL0 hps
  have ha48 := arrB48
  have HF := Lib.hid hF
  have HS := Lib.hid hS
  have HD := Lib.hid hd
  have HT := Lib.hid hT
  have ha5 := arrB5
  clear hF hS hd hT h5
  go_enter Tryz.func16, Tryz.ntmps16
  go_wp2_with (first | (go_at_call 46; (refine (take_any p r d c x y z u v _ (h.below ?q0) r0 r1 d0 d1 hv).mono ?_); (case q0 => (repeat' (first | (with_reducible exact Below.refl _ _) | (with_reducible assumption) | (with_reducible refine below_drewN ?_ _) | (with_reducible refine Below.drew ?_) | ((with_reducible refine Below.alloc ?_ ?_ _); (rotate_left; focus (first | omega | (simp; done) | (simp; omega)))) | ((with_reducible refine Below.setCell ?_ ?_ _); (rotate_left; focus (first | omega | (simp; done) | (simp; omega)))) | (with_reducible refine Below.grown ?_ (by assumption) (by first | omega | (simp; omega)) (by simp [Value.ownBlock]; try omega)) | (with_reducible refine below_then ?_ (Aft.below _)) | (with_reducible apply below_then; rotate_left; assumption)))); rw [HF.out, HD.out, HS.out, HT.out, show agg4 [t0, t1, t2, t3] = .agg #[.int .u8 t0, .int .u8 t1, .int .u8 t2, .int .u8 t3] from rfl]; rintro e wt ⟨rfl, hR, hC⟩; have hs_wt := hC.size; (try simp at hs_wt); have hth : wt.there w.heap.size 0 53 := there_chg hC (by omega) (there_new rfl rfl)) | (go_at_call 47; ((refine (unpack_any (zs := [t0, t1, t2, t3]) (four_at ?q0 (cell_top rfl rfl) (cell_top rfl rfl) (cell_top rfl rfl) (cell_top rfl rfl) htb) nni).mono ?_)); (case q0 => (simp; done)); rw [E5.out.1, E5.out.2.1, E5.out.2.2.1, E5.out.2.2.2.1, E5.out.2.2.2.2]; rintro e wu ⟨rfl, hb_wu⟩; have hs_wu := hb_wu.size; (try simp at hs_wu); have hth2 : wu.there w.heap.size 0 53 := there_below (World.there_alloc hth _) hb_wu; have hP2 : BytesAt wu (some ⟨b, off + 5, none⟩) 48 ps := ((hPS.below (by (repeat' (first | (with_reducible exact Below.refl _ _) | (with_reducible assumption) | (with_reducible refine below_drewN ?_ _) | (with_reducible refine Below.drew ?_) | ((with_reducible refine Below.alloc ?_ ?_ _); (rotate_left; focus (first | omega | (simp; done) | (simp; omega)))) | ((with_reducible refine Below.setCell ?_ ?_ _); (rotate_left; focus (first | omega | (simp; done) | (simp; omega)))) | (with_reducible refine Below.grown ?_ (by assumption) (by first | omega | (simp; omega)) (by simp [Value.ownBlock]; try omega)) | (with_reducible refine below_then ?_ (Aft.below _)) | (with_reducible apply below_then; rotate_left; assumption))))).chgU hC (fun b' off' e => by injection e with e; injection e with e1 e2; omega)).below (by (repeat' (first | (with_reducible exact Below.refl _ _) | (with_reducible assumption) | (with_reducible refine below_drewN ?_ _) | (with_reducible refine Below.drew ?_) | ((with_reducible refine Below.alloc ?_ ?_ _); (rotate_left; focus (first | omega | (simp; done) | (simp; omega)))) | ((with_reducible refine Below.setCell ?_ ?_ _); (rotate_left; focus (first | omega | (simp; done) | (simp; omega)))) | (with_reducible refine Below.grown ?_ (by assumption) (by first | omega | (simp; omega)) (by simp [Value.ownBlock]; try omega)) | (with_reducible refine below_then ?_ (Aft.below _)) | (with_reducible apply below_then; rotate_left; assumption))))))
  refine region_tail_b 6 (by kernel_rfl) (by kernel_rfl) rfl ?_
  simp only [List.take_succ_cons, List.take_zero, List.drop_succ_cons, List.drop_zero]
  go_big_quiet_step (fail)
  go_big_quiet_step (fail)
  go_big_quiet_step (fail)
  go_big_quiet_step (fail)
  refine wpQuiet_load48 (zs := ps) rfl rfl rfl hpl ?_ ?_
  · intro w' hw'
    obtain ⟨_, rfl⟩ := hw'
    exact (BytesAt.drew (hP2.below (by (repeat' (first | (with_reducible exact Below.refl _ _) | (with_reducible assumption) | (with_reducible refine below_drewN ?_ _) | (with_reducible refine Below.drew ?_) | ((with_reducible refine Below.alloc ?_ ?_ _); (rotate_left; focus (first | omega | (simp; done) | (simp; omega)))) | ((with_reducible refine Below.setCell ?_ ?_ _); (rotate_left; focus (first | omega | (simp; done) | (simp; omega)))) | (with_reducible refine Below.grown ?_ (by assumption) (by first | omega | (simp; omega)) (by simp [Value.ownBlock]; try omega)) | (with_reducible refine below_then ?_ (Aft.below _)) | (with_reducible apply below_then; rotate_left; assumption)))))).range
  simp only [Act.put, List.setIfInBounds_toArray, List.set_cons_succ, List.set_cons_zero]
  refine wpQuiet_build46 (zs := ps) rfl rfl rfl rfl hpl ?_
  simp only [Act.put, List.setIfInBounds_toArray, List.set_cons_succ, List.set_cons_zero]
  refine wpQuiet_nil ?_
  go_wp2_with (refine wpList_store_mid (cells := (cellV G P C T L ps).toArray) ?sgd 58 (.tmp 6) (.tmp 45) ?sho w.heap.size 0 ?shx ?shy ?sht ?shi (one_cellV _ _ _ _ _ _) ?_; (case sho => rfl); (case sgd => rfl); (case shx => rfl); (case shy => rfl); (case sht => ((rw [show (cellV G P C T L ps).toArray.size = 53 by simp [hpl]]); (repeat (first | (with_reducible assumption) | (with_reducible refine there_drew ?_) | (with_reducible refine World.there_alloc ?_ _) | (with_reducible refine there_setCell ?_ _ _) | (with_reducible refine there_below ?_ (by assumption)) | exact there_new rfl rfl)))); (case shi => (rw [siz46]; simp [hpl])))
  refine bodyPost_ret (results46 rfl _ _ rfl ?_ (by simp [hpl])) rfl ⟨rfl, ?_, ?_⟩
  · (repeat (first | (with_reducible assumption) | (with_reducible refine there_drew ?_) | (with_reducible refine World.there_alloc ?_ _) | (with_reducible refine there_setCell ?_ _ _) | (with_reducible refine there_below ?_ (by assumption)) | exact there_new rfl rfl))
  · refine recAt_setCells _ _ ?_ (by omega)
    (repeat (first | (with_reducible assumption) | (with_reducible apply RecAt.set0) | (with_reducible apply RecAt.set1) | (with_reducible apply RecAt.set2) | ((with_reducible refine RecAt.beside ?_ ?_); (rotate_left; focus (first | omega | (simp; omega)))) | (with_reducible refine RecAt.alloc ?_ _) | (with_reducible refine RecAt.drewN ?_ _) | (with_reducible refine RecAt.drew ?_) | (with_reducible refine RecAt.below ?_ (by assumption))))
  · refine Chg.setCells _ _ ?_ (Nat.le_refl _)
    have hCp : Chg p w wt := (Chg.of (by (repeat' (first | (with_reducible exact Below.refl _ _) | (with_reducible assumption) | (with_reducible refine below_drewN ?_ _) | (with_reducible refine Below.drew ?_) | ((with_reducible refine Below.alloc ?_ ?_ _); (rotate_left; focus (first | omega | (simp; done) | (simp; omega)))) | ((with_reducible refine Below.setCell ?_ ?_ _); (rotate_left; focus (first | omega | (simp; done) | (simp; omega)))) | (with_reducible refine Below.grown ?_ (by assumption) (by first | omega | (simp; omega)) (by simp [Value.ownBlock]; try omega)) | (with_reducible refine below_then ?_ (Aft.below _)) | (with_reducible apply below_then; rotate_left; assumption))))).trans hC
    (repeat (first | (with_reducible exact Chg.refl _ _) | (with_reducible assumption) | (with_reducible refine Chg.setCell ?_ _ _) | ((with_reducible refine Chg.setNew ?_ ?_ _ _); (rotate_left; focus (first | omega | (simp; omega)))) | (with_reducible refine Chg.alloc ?_ _) | (with_reducible refine Chg.drewN ?_ _) | (with_reducible refine Chg.drew ?_) | (with_reducible refine Chg.then ?_ (by assumption))))
end Go.Proofs.YtaoagbnhomjkpaaGreat
