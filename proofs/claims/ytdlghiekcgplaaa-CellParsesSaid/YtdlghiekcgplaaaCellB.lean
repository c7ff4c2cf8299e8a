/- The walk of cell.Build. -/
import Derived.Test.YtdlghiekcgplaaaCellG
import Derived.Test.YtdlghiekcgplaaaHeadK
import Derived.Test.YtdlghiekcgplaaaLead
namespace Go.Proofs.Ytdlghiekcgplaaa
set_option linter.unusedVariables false
set_option linter.unusedSimpArgs false
open Go.RowKit
set_option maxRecDepth 100000
set_option maxHeartbeats 4000000
/-- a cell in memory. -/
structure CellAt (w : World) (b : Nat) (g p c t l : Int) (zs : List Int) : Prop where
  c0 : w.cell? ⟨b, 0, none⟩ = some (.int .i64 g)
  c1 : w.cell? ⟨b, 1, none⟩ = some (.int .i64 p)
  c2 : w.cell? ⟨b, 2, none⟩ = some (.int .i64 c)
  c3 : w.cell? ⟨b, 3, none⟩ = some (.int .i64 t)
  c4 : w.cell? ⟨b, 4, none⟩ = some (.int .i64 l)
  row : BytesAt w (some ⟨b, 5, none⟩) 48 zs
theorem cellAt_new {w : World} {X : Array Value} {E : TypeId} {g p c t l : Int} {zs : List Int} (hX : X = (hdr5 g p c t l ++ u8s zs).toArray) (hl : zs.length = 48) (hb : allB zs) : CellAt (w.alloc (.cells X E)) w.heap.size g p c t l zs := by
  subst hX
  have hr : (w.alloc (.cells (hdr5 g p c t l ++ u8s zs).toArray E)).rangeAt w.heap.size 5 (u8s zs) := fun j v hv => by
    refine cell_top rfl ?_
    rw [List.getElem?_toArray, List.getElem?_append_right (by simp)]
    simpa using hv
  have h := bytes_range hr (by simp) hb (by omega)
  rw [hl] at h
  exact ⟨cell_top rfl rfl, cell_top rfl rfl, cell_top rfl rfl, cell_top rfl rfl, cell_top rfl rfl, h⟩
theorem hdr_at {X : Array Value} {g p c t l : Int} {P : List Value} (hX : X = (hdr5 g p c t l ++ P).toArray) (hsz : X.size = 53) :
    (X[0]'(by omega) = .int .i64 g) ∧ (X[1]'(by omega) = .int .i64 p) ∧ (X[2]'(by omega) = .int .i64 c) ∧ (X[3]'(by omega) = .int .i64 t) ∧ (X[4]'(by omega) = .int .i64 l) := by
  subst hX
  exact ⟨by simp, by simp, by simp, by simp, by simp⟩
theorem arrB4 (a : Option Addr) (c : Nat) (w : World) : (Instr.arrayAt 40 (.slice a 4 c)).run Try.prog w = .ok (.pointer a) w := run_arrayAt w _ _ _ a 4 c Try.underlying40 (by decide)
theorem arrB5 (a : Option Addr) (c : Nat) (w : World) : (Instr.arrayAt 85 (.slice a 5 c)).run Try.prog w = .ok (.pointer a) w := run_arrayAt w _ _ _ a 5 c Try.underlying85 (by decide)
theorem arrB48 (a : Option Addr) (c : Nat) (w : World) : (Instr.arrayAt 44 (.slice a 48 c)).run Try.prog w = .ok (.pointer a) w := run_arrayAt w _ _ _ a 48 c Try.underlying44 (by decide)
theorem OwnB.base {w : World} {B B' n : Nat} {v : Value} {zs : List Int} (h : OwnB w B v n zs) (hb : B' ≤ B) : OwnB w B' v n zs := by
  refine ⟨⟨h.1.1, ?_⟩, h.2⟩
  rcases h.1.2 with h2 | ⟨g, cap, cur, hv, hg, r⟩
  · exact Or.inl h2
  · exact Or.inr ⟨g, cap, cur, hv, Nat.le_trans hb hg, r⟩
/-- a cell's bytes. -/
def headZ (n : Int) : List Int := bytes4 n ++ [e8 (bytes4 n)]
def cellZ (n : Int) (zs : List Int) : List Int := headZ n ++ zs
theorem cellBuild_yes (g p c t l n : Int) (nni : Bool) (zs : List Int) (w : World) (hr : rightH nni g p c t l = true) (hw : wordH nni g p c t l = n) (hl : zs.length = 48) (hb : allB zs) :
    Calls Try.prog 27 #[.agg (hdr5 g p c t l ++ u8s zs).toArray, .bool nni] w fun e w' => ∃ v, e = .returned (.tuple #[v, .int .i64 0]) ∧ OwnB w' w.heap.size v 53 (cellZ n zs) ∧ Below w.heap.size w w' := by
  have hsz : (hdr5 g p c t l ++ u8s zs).toArray.size = 53 := by simp [hl]
  obtain ⟨X, hX⟩ : ∃ X, X = (hdr5 g p c t l ++ u8s zs).toArray := ⟨_, rfl⟩
  rw [← hX] at hsz ⊢
  have HC : CellAt (w.alloc (.cells X 46)) w.heap.size g p c t l zs := cellAt_new hX hl hb
  obtain ⟨y0, y1, y2, y3, y4⟩ := hdr_at hX hsz
  have row := HC.row
  clear HC
  obtain ⟨zh, hzh⟩ : ∃ zh, zh = bytes4 n := ⟨_, rfl⟩
  obtain ⟨x, y, z, u, hq⟩ : ∃ x y z u, zh = [x, y, z, u] := ⟨_, _, _, _, hzh⟩
  have hv : ∀ q ∈ [x, y, z, u], 0 ≤ q ∧ q < 256 := by
    rw [← hq, hzh]; unfold bytes4
    intro q hq; simp only [List.mem_cons, List.not_mem_nil, or_false] at hq
    rcases hq with h | h | h | h <;> (rw [h]; constructor <;> omega)
  obtain ⟨E, hE⟩ : ∃ E, e8 [x, y, z, u] = E := ⟨_, rfl⟩
  have hv5 : ∀ q ∈ [x, y, z, u, E], 0 ≤ q ∧ q < 256 := by
    rw [← hE]; exact right_B (zs := [x, y, z, u]) hv
  have HCZ : Hid (cellZ n zs = [x, y, z, u, E] ++ zs) := by
    show cellZ n zs = _
    unfold cellZ headZ
    rw [← hzh, hq, hE]; rfl
  rw [HCZ.out]
  have HE := Lib.hid hE
  have HZH := Lib.hid hzh
  have HQ := Lib.hid hq
  have HN := Lib.hid hw
  clear hE hzh hq hX hw
  have ha4 := arrB4
  go_enter Try.func27, Try.ntmps27
  go_wp2_with (first | (go_at_call 18; refine (pack_at g p c t l nni _ n hr HN.out).mono ?_; rintro e wp ⟨b, rfl, hb1, hb2, hB, hb_wp⟩; rw [← HZH.out, HQ.out] at hB; obtain ⟨hc_wp, hf_wp⟩ := bcell hb_wp; have q0 : wp.cell? ⟨b, 0, none⟩ = some (.int .u8 x) := hB.cellAt (k := 0) (by omega); have q1 : wp.cell? ⟨b, 1, none⟩ = some (.int .u8 y) := hB.cellAt (k := 1) (by omega); have q2 : wp.cell? ⟨b, 2, none⟩ = some (.int .u8 z) := hB.cellAt (k := 2) (by omega); have q3 : wp.cell? ⟨b, 3, none⟩ = some (.int .u8 u) := hB.cellAt (k := 3) (by omega); have hs_wp := hb_wp.size; (try simp at hs_wp)) | (go_at_call 42; (with_reducible refine (seal_any _ _ _ _ _ hv).mono ?_); rw [HE.out]; rintro e ws ⟨rfl, hb_ws⟩; obtain ⟨hc_ws, hf_ws⟩ := bcell hb_ws; have hs_ws := hb_ws.size; (try simp at hs_ws); (try have h1_ws : w.heap.size < ws.heap.size := by omega); (try have h3_ws : w.heap.size < ws.heap.size + 1 := by omega); (try have h4_ws : w.heap.size < ws.heap.size + 1 + 1 := by omega); (try have h5_ws : ¬ w.heap.size = ws.heap.size := by omega)))
  (refine wp_region_lead (fun _ => True) [3, 4, 5, 6] [0, 1, 2, 3, 4, 5, 6] _ (by kernel_rfl) (by kernel_rfl) (by kernel_rfl) (by simp only [List.filterMap_cons, List.getElem?_cons_zero, List.getElem?_cons_succ, Option.map_some, List.filterMap_nil]; rfl) rfl rfl trivial ?_)
  (refine lead_quiet_n 3 rfl trivial ?_); (intro _); (simp only [List.take_succ_cons, List.take_zero, List.drop_succ_cons, List.drop_zero, List.map_cons, List.map_nil]); (repeat (go_big_quiet_step (fail))); (refine wpQuiet_nil ?_)
  (refine lead_list_n 4 rfl ?_); (simp only [List.take_succ_cons, List.take_zero, List.drop_succ_cons, List.drop_zero, List.map_cons, List.map_nil])
  go_wp2_with (go_at_call 43; (refine (concat_any (a1 := some ⟨ws.heap.size, 0, none⟩) (a2 := some ⟨w.heap.size, 5, none⟩) (c1 := 5) (c2 := 48) (n1 := 5) (n2 := 48) (xs := [x, y, z, u, E]) (ys := zs) _ ?k0 ?k1 ?k2 ?k3 ?k4 ?k5 ?k6 ?k7).mono ?_); (case k4 => (intro h; cases h)); (case k5 => (intro h; cases h)); (case k6 => omega); (case k7 => omega); (case k0 => (repeat (first | (with_reducible assumption) | ((with_reducible refine cell_top ?_ rfl); first | (with_reducible rfl) | (simp; done)) | (with_reducible apply cell_drew) | (with_reducible apply cell_drewN) | ((with_reducible apply cell_keep); focus (with_reducible assumption)) | (with_reducible refine cell_keep (Aft.below _) ?_) | (with_reducible apply cell_set) | ((with_reducible apply cell_off); focus (decide)) | ((with_reducible apply cell_beside); focus (first | omega | (simp; done) | (simp; omega))) | ((with_reducible apply cell_under); focus (first | omega | (simp; done) | (simp; omega)))))); (case k1 => (repeat (first | (with_reducible assumption) | ((with_reducible refine cell_top ?_ rfl); first | (with_reducible rfl) | (simp; done)) | (with_reducible apply cell_drew) | (with_reducible apply cell_drewN) | ((with_reducible apply cell_keep); focus (with_reducible assumption)) | (with_reducible refine cell_keep (Aft.below _) ?_) | (with_reducible apply cell_set) | ((with_reducible apply cell_off); focus (decide)) | ((with_reducible apply cell_beside); focus (first | omega | (simp; done) | (simp; omega))) | ((with_reducible apply cell_under); focus (first | omega | (simp; done) | (simp; omega)))))); (case k2 => exact BytesAt.below (bytes_topU (w := ws) (cs := #[.int .u8 x, .int .u8 y, .int .u8 z, .int .u8 u, .int .u8 E]) (E := 85) (fr := (0, 0)) [x, y, z, u, E] rfl rfl hv5 (by simp)) (by (repeat' (first | (with_reducible exact Below.refl _ _) | (with_reducible assumption) | (with_reducible refine below_drewN ?_ _) | (with_reducible refine Below.drew ?_) | ((with_reducible refine Below.alloc ?_ ?_ _); (rotate_left; focus (first | omega | (simp; done) | (simp; omega)))) | ((with_reducible refine Below.setCell ?_ ?_ _); (rotate_left; focus (first | omega | (simp; done) | (simp; omega)))) | (with_reducible refine Below.grown ?_ (by assumption) (by first | omega | (simp; omega)) (by simp [Value.ownBlock]; try omega)) | (with_reducible refine below_then ?_ (Aft.below _)) | (with_reducible apply below_then; rotate_left; assumption))))); (case k3 => exact row.below (by (repeat' (first | (with_reducible exact Below.refl _ _) | (with_reducible assumption) | (with_reducible refine below_drewN ?_ _) | (with_reducible refine Below.drew ?_) | ((with_reducible refine Below.alloc ?_ ?_ _); (rotate_left; focus (first | omega | (simp; done) | (simp; omega)))) | ((with_reducible refine Below.setCell ?_ ?_ _); (rotate_left; focus (first | omega | (simp; done) | (simp; omega)))) | (with_reducible refine Below.grown ?_ (by assumption) (by first | omega | (simp; omega)) (by simp [Value.ownBlock]; try omega)) | (with_reducible refine below_then ?_ (Aft.below _)) | (with_reducible apply below_then; rotate_left; assumption))))); rintro e wc ⟨v, rfl, own, hb_wc⟩)
  (refine ⟨rfl, ?_⟩); (refine lead_nil ?_)
  have hBc : Below w.heap.size w wc := by (repeat' (first | (with_reducible exact Below.refl _ _) | (with_reducible assumption) | (with_reducible refine below_drewN ?_ _) | (with_reducible refine Below.drew ?_) | ((with_reducible refine Below.alloc ?_ ?_ _); (rotate_left; focus (first | omega | (simp; done) | (simp; omega)))) | ((with_reducible refine Below.setCell ?_ ?_ _); (rotate_left; focus (first | omega | (simp; done) | (simp; omega)))) | (with_reducible refine Below.grown ?_ (by assumption) (by first | omega | (simp; omega)) (by simp [Value.ownBlock]; try omega)) | (with_reducible refine below_then ?_ (Aft.below _)) | (with_reducible apply below_then; rotate_left; assumption)))
  go_wp2
  go_ret2
  exact ⟨_, rfl, own.base (by simp; omega), hBc⟩
theorem cellBuild_no (g p c t l : Int) (nni : Bool) (P : List Value) (w : World) (hr : rightH nni g p c t l = false) (hP : P.length = 48) :
    Calls Try.prog 27 #[.agg (hdr5 g p c t l ++ P).toArray, .bool nni] w fun e w' => e = .returned (.tuple #[.slice none 0 0, .int .i64 1]) ∧ Below w.heap.size w w' := by
  have hsz : (hdr5 g p c t l ++ P).toArray.size = 53 := by simp [hP]
  obtain ⟨X, hX⟩ : ∃ X, X = (hdr5 g p c t l ++ P).toArray := ⟨_, rfl⟩
  rw [← hX] at hsz ⊢
  obtain ⟨y0, y1, y2, y3, y4⟩ := hdr_at hX hsz
  clear hX
  go_enter Try.func27, Try.ntmps27
  go_wp2_with (go_at_call 18; refine (pack_no g p c t l nni _ hr).mono ?_; rintro e wp ⟨rfl, hb_wp⟩; obtain ⟨hc_wp, hf_wp⟩ := bcell hb_wp; have hs_wp := hb_wp.size; (try simp at hs_wp); (try have h1_wp : w.heap.size < wp.heap.size := by omega); (try have h3_wp : w.heap.size < wp.heap.size + 1 := by omega); (try have h4_wp : w.heap.size < wp.heap.size + 1 + 1 := by omega); (try have h5_wp : ¬ w.heap.size = wp.heap.size := by omega))
  go_ret2
  exact ⟨rfl, by (repeat' (first | (with_reducible exact Below.refl _ _) | (with_reducible assumption) | (with_reducible refine below_drewN ?_ _) | (with_reducible refine Below.drew ?_) | ((with_reducible refine Below.alloc ?_ ?_ _); (rotate_left; focus (first | omega | (simp; done) | (simp; omega)))) | ((with_reducible refine Below.setCell ?_ ?_ _); (rotate_left; focus (first | omega | (simp; done) | (simp; omega)))) | (with_reducible refine Below.grown ?_ (by assumption) (by first | omega | (simp; omega)) (by simp [Value.ownBlock]; try omega)) | (with_reducible refine below_then ?_ (Aft.below _)) | (with_reducible apply below_then; rotate_left; assumption)))⟩
end Go.Proofs.Ytdlghiekcgplaaa
