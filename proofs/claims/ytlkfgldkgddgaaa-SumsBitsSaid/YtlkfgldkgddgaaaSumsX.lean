/- The walk of the law SumsBits. -/
import Derived.Test.YtlkfgldkgddgaaaSumsS
import Derived.Test.YtlkfgldkgddgaaaSumsT
import Derived.ArgAppend
import Derived.Test.YtlkfgldkgddgaaaLead
namespace Go.Proofs.Ytlkfgldkgddgaaa
set_option linter.unusedVariables false
set_option linter.unusedSimpArgs false
open Go.RowKit
set_option maxRecDepth 100000
set_option maxHeartbeats 4000000
/-- bytes behind a slice that is full. -/
theorem wpList_append_full {w : World} {ops : Array Oper} {rest : List Oper} {o : Oper} {a : Act} {Q : Exit → Act → World → Prop} (hgd : o.guard = none) (s x : Operand)
    (ho : o.op = .call { callee := .builtin .append, args := #[s, x], argTypes := #[24, 24] }) {ad0 : Option Addr} {n cap : Nat} {xs : List Int} (hs : a.eval s = .slice ad0 n cap) (hxs : BytesAt w ad0 n xs) (hn0 : ad0 = none → cap = 0)
    {ad : Option Addr} {m c : Nat} {ys : List Int} (hx : a.eval x = .slice ad m c) (hy : BytesAt w ad m ys) (hm : 0 < m) (hfull : cap < n + m) (hb : n + m ≤ 140737488355328)
    (h : ∀ v' w', OwnB w' w.heap.size v' (n + m) (xs ++ ys) → Below w.heap.size w w' → wpList Try.prog ops Q rest (a.put o.dst v') w') : wpList Try.prog ops Q (o :: rest) a w := by
  obtain ⟨inf, hin, hi0, hi1, hi2⟩ := info_parts u8Info
  obtain ⟨b, off, rfl, hb1, hc⟩ := hy.cells hm
  have news : ∀ j u, (ys.map (Value.int .u8))[j]? = some u → w.cell? ((⟨b, off, none⟩ : Addr).add j) = some u := by
    intro j u hj
    rw [List.getElem?_map] at hj
    by_cases hjm : j < ys.length
    · rw [List.getElem?_eq_getElem hjm] at hj
      have := hc j (by rw [← hy.length]; exact hjm)
      rw [List.getElem?_eq_getElem hjm] at this
      simp at hj this
      rw [← hj, Go.WideShapes.add_plain]
      exact this
    · rw [List.getElem?_eq_none (by omega)] at hj; simp at hj
  refine wpList_append_grows _ hgd s x 24 ho 5 inf _ 1 1 Try.underlying24 hin hi0 hi1 hi2 rfl (by decide) ad0 n cap (xs.map (Value.int .u8)) hs ?_ (by simp [hxs.length]) ?_ ⟨b, off, none⟩ m c (ys.map (Value.int .u8)) hx (by simp [hy.length]) news ?_ hfull (by unfold maxLen; omega) (by omega) ?_
  · intro e
    refine ⟨?_, hn0 e⟩
    rcases Nat.eq_zero_or_pos n with h0 | h0
    · exact h0
    · obtain ⟨_, _, e2, _⟩ := hxs.cells h0
      rw [e] at e2; cases e2
  · intro b' e j u hj
    rw [List.getElem?_map] at hj
    by_cases hjm : j < xs.length
    · obtain ⟨b2, o2, e2, _, hc2⟩ := hxs.cells (by rw [← hxs.length]; omega)
      rw [e] at e2; injection e2 with e2; subst e2
      rw [List.getElem?_eq_getElem hjm] at hj
      have := hc2 j (by rw [← hxs.length]; exact hjm)
      rw [List.getElem?_eq_getElem hjm] at this
      simp at hj this
      rw [← hj, Go.WideShapes.add_plain]
      exact this
    · rw [List.getElem?_eq_none (by omega)] at hj; simp at hj
  · intro u hu
    obtain ⟨z, _, rfl⟩ := List.mem_map.1 hu
    rfl
  · intro v' w' h1 h2
    refine h v' w' ⟨?_, bytes_append hxs.byte hy.byte⟩ (below_grown h2 (fun k hk => by cases hk))
    rw [List.map_append]; exact h1
theorem own_nil {w : World} {base : Nat} {a : Option Addr} {n c : Nat} {zs : List Int} (h : OwnB w base (.slice a n c) n zs) (ha : a = none) : c = 0 := by
  subst ha
  rcases h.1.2 with ⟨h1, _⟩ | ⟨g, cap, cur, h1, _⟩
  · injection h1
  · cases h1
theorem four_at {w : World} {b : Nat} {x y z u : Int} (hb : b < w.heap.size) (h0 : w.cell? ⟨b, 0, none⟩ = some (.int .u8 x)) (h1 : w.cell? ⟨b, 1, none⟩ = some (.int .u8 y)) (h2 : w.cell? ⟨b, 2, none⟩ = some (.int .u8 z)) (h3 : w.cell? ⟨b, 3, none⟩ = some (.int .u8 u))
    (hv : ∀ q ∈ [x, y, z, u], 0 ≤ q ∧ q < 256) : BytesAt w (some ⟨b, 0, none⟩) 4 [x, y, z, u] :=
  ⟨rfl, by omega, fun k => by
    match k with
    | 0 => exact hv x (by simp)
    | 1 => exact hv y (by simp)
    | 2 => exact hv z (by simp)
    | 3 => exact hv u (by simp)
    | k + 4 => simp,
   fun _ => ⟨b, 0, rfl, hb, fun k hk => by
    match k, hk with
    | 0, _ => exact h0
    | 1, _ => exact h1
    | 2, _ => exact h2
    | 3, _ => exact h3⟩⟩
theorem sumsBits_go (b0 b1 b2 b3 : Int) (i k : Nat) (w : World) (hv : ∀ q ∈ [b0, b1, b2, b3], 0 ≤ q ∧ q < 256) (hi : i < 256) (hk : k < 256) :
    Calls Try.prog 3 #[.agg #[.int .u8 b0, .int .u8 b1, .int .u8 b2, .int .u8 b3], .int .u8 (i : Int), .int .u8 (k : Int)] w fun e w' => e = .returned (.bool true) ∧ Below w.heap.size w w' := by
  obtain ⟨zs, hzs⟩ : ∃ zs, zs = [b0, b1, b2, b3] := ⟨_, rfl⟩
  have hvz : allB zs := by rw [hzs]; exact hv
  have hlz : zs.length = 4 := by rw [hzs]; rfl
  obtain ⟨x, hx⟩ : ∃ x, i % 40 = x := ⟨_, rfl⟩
  obtain ⟨y, hy⟩ : ∃ y, k % 40 = y := ⟨_, rfl⟩
  have hx40 : x < 40 := by omega
  have hy40 : y < 40 := by omega
  have ri : IntKind.i64.wrap ((i : Int).tmod 40) = (x : Int) := by rw [Int.tmod_eq_emod_of_nonneg (by omega)]; rw [IntWalk.i64_in _ (by omega)]; omega
  have rk : IntKind.i64.wrap ((k : Int).tmod 40) = (y : Int) := by rw [Int.tmod_eq_emod_of_nonneg (by omega)]; rw [IntWalk.i64_in _ (by omega)]; omega
  have ei : (i : Int) % 40 = (x : Int) := by omega
  have ek : (k : Int) % 40 = (y : Int) := by omega
  have s0 := synd_right hlz hvz
  have s1 := synd_one hlz hvz x
  have s2 := synd_two_zero hlz hvz hx40 hy40
  have sb := bitV_tab hx40
  have st := tab_pos hx40
  have tab0 : 0 ≤ tabZ x := (tab_bd hx40).1
  have tab1 : tabZ x < 256 := (tab_bd hx40).2
  go_enter Try.func3, Try.ntmps3
  go_wp2_with (first | (go_at_call 15; refine (awake01 _).mono ?_; rintro e wa ⟨rfl, hb_wa⟩; obtain ⟨hc_wa, hf_wa⟩ := bcell hb_wa; have hs_wa := hb_wa.size; (try simp at hs_wa); (try have h1_wa : w.heap.size < wa.heap.size := by omega); (try have h3_wa : w.heap.size < wa.heap.size + 1 := by omega); (try have h4_wa : w.heap.size < wa.heap.size + 1 + 1 := by omega); (try have h5_wa : ¬ w.heap.size = wa.heap.size := by omega)))
  have q0 : wa.cell? ⟨w.heap.size, 0, none⟩ = some (.int .u8 b0) := by (repeat (first | (with_reducible assumption) | ((with_reducible refine cell_top ?_ rfl); first | (with_reducible rfl) | (simp; done)) | (with_reducible apply cell_drew) | (with_reducible apply cell_drewN) | ((with_reducible apply cell_keep); focus (with_reducible assumption)) | (with_reducible refine cell_keep (Aft.below _) ?_) | (with_reducible apply cell_set) | ((with_reducible apply cell_off); focus (decide)) | ((with_reducible apply cell_beside); focus (first | omega | (simp; done) | (simp; omega))) | ((with_reducible apply cell_under); focus (first | omega | (simp; done) | (simp; omega)))))
  have q1 : wa.cell? ⟨w.heap.size, 1, none⟩ = some (.int .u8 b1) := by (repeat (first | (with_reducible assumption) | ((with_reducible refine cell_top ?_ rfl); first | (with_reducible rfl) | (simp; done)) | (with_reducible apply cell_drew) | (with_reducible apply cell_drewN) | ((with_reducible apply cell_keep); focus (with_reducible assumption)) | (with_reducible refine cell_keep (Aft.below _) ?_) | (with_reducible apply cell_set) | ((with_reducible apply cell_off); focus (decide)) | ((with_reducible apply cell_beside); focus (first | omega | (simp; done) | (simp; omega))) | ((with_reducible apply cell_under); focus (first | omega | (simp; done) | (simp; omega)))))
  have q2 : wa.cell? ⟨w.heap.size, 2, none⟩ = some (.int .u8 b2) := by (repeat (first | (with_reducible assumption) | ((with_reducible refine cell_top ?_ rfl); first | (with_reducible rfl) | (simp; done)) | (with_reducible apply cell_drew) | (with_reducible apply cell_drewN) | ((with_reducible apply cell_keep); focus (with_reducible assumption)) | (with_reducible refine cell_keep (Aft.below _) ?_) | (with_reducible apply cell_set) | ((with_reducible apply cell_off); focus (decide)) | ((with_reducible apply cell_beside); focus (first | omega | (simp; done) | (simp; omega))) | ((with_reducible apply cell_under); focus (first | omega | (simp; done) | (simp; omega)))))
  have q3 : wa.cell? ⟨w.heap.size, 3, none⟩ = some (.int .u8 b3) := by (repeat (first | (with_reducible assumption) | ((with_reducible refine cell_top ?_ rfl); first | (with_reducible rfl) | (simp; done)) | (with_reducible apply cell_drew) | (with_reducible apply cell_drewN) | ((with_reducible apply cell_keep); focus (with_reducible assumption)) | (with_reducible refine cell_keep (Aft.below _) ?_) | (with_reducible apply cell_set) | ((with_reducible apply cell_off); focus (decide)) | ((with_reducible apply cell_beside); focus (first | omega | (simp; done) | (simp; omega))) | ((with_reducible apply cell_under); focus (first | omega | (simp; done) | (simp; omega)))))
  have HB : BytesAt wa (some ⟨w.heap.size, 0, none⟩) 4 zs := by rw [hzs]; exact four_at (by omega) q0 q1 q2 q3 hv
  clear q0 q1 q2 q3 hzs hv
  (refine wp_region_lead (fun _ => True) [2, 3, 4, 5] [0, 1, 2, 3, 4, 5] _ (by kernel_rfl) (by kernel_rfl) (by kernel_rfl) (by simp only [List.filterMap_cons, List.getElem?_cons_zero, List.getElem?_cons_succ, Option.map_some, List.filterMap_nil]; rfl) rfl rfl trivial ?_)
  (refine lead_quiet_n 2 rfl trivial ?_); (intro _); (simp only [List.take_succ_cons, List.take_zero, List.drop_succ_cons, List.drop_zero, List.map_cons, List.map_nil]); (repeat (go_big_quiet_step (fail))); (refine wpQuiet_nil ?_)
  (refine lead_list_n 4 rfl ?_); (simp only [List.take_succ_cons, List.take_zero, List.drop_succ_cons, List.drop_zero, List.map_cons, List.map_nil])
  go_wp2_with (first | (go_at_call 16; (with_reducible refine (eight_at (HB.below ?he1)).mono ?_); (case he1 => (repeat' (first | (with_reducible exact Below.refl _ _) | (with_reducible assumption) | (with_reducible refine below_drewN ?_ _) | (with_reducible refine Below.drew ?_) | ((with_reducible refine Below.alloc ?_ ?_ _); (rotate_left; focus (first | omega | (simp; done) | (simp; omega)))) | ((with_reducible refine Below.setCell ?_ ?_ _); (rotate_left; focus (first | omega | (simp; done) | (simp; omega)))) | (with_reducible refine Below.grown ?_ (by assumption) (by first | omega | (simp; omega)) (by simp [Value.ownBlock]; try omega)) | (with_reducible refine below_then ?_ (Aft.below _)) | (with_reducible apply below_then; rotate_left; assumption)))); rintro e we ⟨rfl, hb_we⟩; obtain ⟨hc_we, hf_we⟩ := bcell hb_we; have hs_we := hb_we.size; (try simp at hs_we); (try have h1_we : w.heap.size < we.heap.size := by omega); (try have h3_we : w.heap.size < we.heap.size + 1 := by omega); (try have h4_we : w.heap.size < we.heap.size + 1 + 1 := by omega); (try have h5_we : ¬ w.heap.size = we.heap.size := by omega)) | (at_builtin; refine wpList_append_full rfl (.tmp 14) (.tmp 17) rfl (ad0 := some ⟨w.heap.size, 0, none⟩) (n := 4) (cap := 4) (xs := zs) (ad := some ⟨we.heap.size, 0, none⟩) (m := 1) (c := 1) (ys := [e8 zs]) rfl ?ha1 (fun h => nomatch h) rfl ?ha2 (by decide) (by decide) (by decide) ?hax; (case ha1 => exact HB.below (by (repeat' (first | (with_reducible exact Below.refl _ _) | (with_reducible assumption) | (with_reducible refine below_drewN ?_ _) | (with_reducible refine Below.drew ?_) | ((with_reducible refine Below.alloc ?_ ?_ _); (rotate_left; focus (first | omega | (simp; done) | (simp; omega)))) | ((with_reducible refine Below.setCell ?_ ?_ _); (rotate_left; focus (first | omega | (simp; done) | (simp; omega)))) | (with_reducible refine Below.grown ?_ (by assumption) (by first | omega | (simp; omega)) (by simp [Value.ownBlock]; try omega)) | (with_reducible refine below_then ?_ (Aft.below _)) | (with_reducible apply below_then; rotate_left; assumption))))); (case ha2 => exact bytes_lit [e8 zs] (by simp; exact e8_bd zs) (by simp)); intro v5 w5 hown5 hgr5; have hs5 := hgr5.size; (try simp at hs5); have hW5 : Below w.heap.size w w5 := (by refine Below.trans ?_ (hgr5.mono (by (try simp); omega)); (repeat' (first | (with_reducible exact Below.refl _ _) | (with_reducible assumption) | (with_reducible refine below_drewN ?_ _) | (with_reducible refine Below.drew ?_) | ((with_reducible refine Below.alloc ?_ ?_ _); (rotate_left; focus (first | omega | (simp; done) | (simp; omega)))) | ((with_reducible refine Below.setCell ?_ ?_ _); (rotate_left; focus (first | omega | (simp; done) | (simp; omega)))) | (with_reducible refine Below.grown ?_ (by assumption) (by first | omega | (simp; omega)) (by simp [Value.ownBlock]; try omega)) | (with_reducible refine below_then ?_ (Aft.below _)) | (with_reducible apply below_then; rotate_left; assumption)))); obtain ⟨a5, c5, rfl, hc51, hc52, hB5, hF5, hN5⟩ := hown5.at (by omega)))
  (refine ⟨rfl, ?_⟩); (refine lead_nil ?_)
  have hn5 : a5 = none → c5 = 0 := own_nil hown5
  clear hown5 hF5 hN5
  go_wp2_with (first | (go_at_call 17; (with_reducible refine (flip_any (hB5.below ?hk1) hn5 x ?hk2 _ ?hk3).mono ?_); (case hk1 => (repeat' (first | (with_reducible exact Below.refl _ _) | (with_reducible assumption) | (with_reducible refine below_drewN ?_ _) | (with_reducible refine Below.drew ?_) | ((with_reducible refine Below.alloc ?_ ?_ _); (rotate_left; focus (first | omega | (simp; done) | (simp; omega)))) | ((with_reducible refine Below.setCell ?_ ?_ _); (rotate_left; focus (first | omega | (simp; done) | (simp; omega)))) | (with_reducible refine Below.grown ?_ (by assumption) (by first | omega | (simp; omega)) (by simp [Value.ownBlock]; try omega)) | (with_reducible refine below_then ?_ (Aft.below _)) | (with_reducible apply below_then; rotate_left; assumption)))); (case hk2 => omega); (case hk3 => first | omega | (simp; done) | (simp; omega)); rintro e w6 ⟨g6, cg6, rfl, hgg6, hclg6, hcmg6, hB6, hb_w6⟩; have hs_w6 := hb_w6.size; (try simp at hs_w6)) | (go_at_call 17; (with_reducible refine (flip_any (hB6.below ?hk1) (fun h => nomatch h) y ?hk2 _ ?hk3).mono ?_); (case hk1 => (repeat' (first | (with_reducible exact Below.refl _ _) | (with_reducible assumption) | (with_reducible refine below_drewN ?_ _) | (with_reducible refine Below.drew ?_) | ((with_reducible refine Below.alloc ?_ ?_ _); (rotate_left; focus (first | omega | (simp; done) | (simp; omega)))) | ((with_reducible refine Below.setCell ?_ ?_ _); (rotate_left; focus (first | omega | (simp; done) | (simp; omega)))) | (with_reducible refine Below.grown ?_ (by assumption) (by first | omega | (simp; omega)) (by simp [Value.ownBlock]; try omega)) | (with_reducible refine below_then ?_ (Aft.below _)) | (with_reducible apply below_then; rotate_left; assumption)))); (case hk2 => omega); (case hk3 => first | omega | (simp; done) | (simp; omega)); rintro e w7 ⟨g7, cg7, rfl, hgg7, hclg7, hcmg7, hB7, hb_w7⟩; have hs_w7 := hb_w7.size; (try simp at hs_w7)) | (go_at_call 19; (with_reducible refine (synd_at (hB6.below ?hr1) (by omega) (by omega)).mono ?_); (case hr1 => (repeat' (first | (with_reducible exact Below.refl _ _) | (with_reducible assumption) | (with_reducible refine below_drewN ?_ _) | (with_reducible refine Below.drew ?_) | ((with_reducible refine Below.alloc ?_ ?_ _); (rotate_left; focus (first | omega | (simp; done) | (simp; omega)))) | ((with_reducible refine Below.setCell ?_ ?_ _); (rotate_left; focus (first | omega | (simp; done) | (simp; omega)))) | (with_reducible refine Below.grown ?_ (by assumption) (by first | omega | (simp; omega)) (by simp [Value.ownBlock]; try omega)) | (with_reducible refine below_then ?_ (Aft.below _)) | (with_reducible apply below_then; rotate_left; assumption)))); rw [s1]; rintro e wp ⟨rfl, hb_wp⟩; obtain ⟨hc_wp, hf_wp⟩ := bcell hb_wp; have hs_wp := hb_wp.size; (try simp at hs_wp); (try have h1_wp : w.heap.size < wp.heap.size := by omega); (try have h3_wp : w.heap.size < wp.heap.size + 1 := by omega); (try have h4_wp : w.heap.size < wp.heap.size + 1 + 1 := by omega); (try have h5_wp : ¬ w.heap.size = wp.heap.size := by omega)) | (go_at_call 18; (with_reducible refine (bit_any _ _ ?ht1 ?ht2).mono ?_); (case ht1 => exact tab0); (case ht2 => exact tab1); rw [sb]; rintro e wq ⟨rfl, hb_wq⟩; obtain ⟨hc_wq, hf_wq⟩ := bcell hb_wq; have hs_wq := hb_wq.size; (try simp at hs_wq); (try have h1_wq : w.heap.size < wq.heap.size := by omega); (try have h3_wq : w.heap.size < wq.heap.size + 1 := by omega); (try have h4_wq : w.heap.size < wq.heap.size + 1 + 1 := by omega); (try have h5_wq : ¬ w.heap.size = wq.heap.size := by omega)) | (go_at_call 19; (with_reducible refine (synd_at (hB5.below ?hr1) (by omega) (by omega)).mono ?_); (case hr1 => (repeat' (first | (with_reducible exact Below.refl _ _) | (with_reducible assumption) | (with_reducible refine below_drewN ?_ _) | (with_reducible refine Below.drew ?_) | ((with_reducible refine Below.alloc ?_ ?_ _); (rotate_left; focus (first | omega | (simp; done) | (simp; omega)))) | ((with_reducible refine Below.setCell ?_ ?_ _); (rotate_left; focus (first | omega | (simp; done) | (simp; omega)))) | (with_reducible refine Below.grown ?_ (by assumption) (by first | omega | (simp; omega)) (by simp [Value.ownBlock]; try omega)) | (with_reducible refine below_then ?_ (Aft.below _)) | (with_reducible apply below_then; rotate_left; assumption)))); rw [s0]; rintro e wr ⟨rfl, hb_wr⟩; obtain ⟨hc_wr, hf_wr⟩ := bcell hb_wr; have hs_wr := hb_wr.size; (try simp at hs_wr); (try have h1_wr : w.heap.size < wr.heap.size := by omega); (try have h3_wr : w.heap.size < wr.heap.size + 1 := by omega); (try have h4_wr : w.heap.size < wr.heap.size + 1 + 1 := by omega); (try have h5_wr : ¬ w.heap.size = wr.heap.size := by omega)) | (go_at_call 19; (with_reducible refine (synd_at (hB7.below ?hr1) (by omega) (by omega)).mono ?_); (case hr1 => (repeat' (first | (with_reducible exact Below.refl _ _) | (with_reducible assumption) | (with_reducible refine below_drewN ?_ _) | (with_reducible refine Below.drew ?_) | ((with_reducible refine Below.alloc ?_ ?_ _); (rotate_left; focus (first | omega | (simp; done) | (simp; omega)))) | ((with_reducible refine Below.setCell ?_ ?_ _); (rotate_left; focus (first | omega | (simp; done) | (simp; omega)))) | (with_reducible refine Below.grown ?_ (by assumption) (by first | omega | (simp; omega)) (by simp [Value.ownBlock]; try omega)) | (with_reducible refine below_then ?_ (Aft.below _)) | (with_reducible apply below_then; rotate_left; assumption)))); rintro e ws ⟨rfl, hb_ws⟩; obtain ⟨hc_ws, hf_ws⟩ := bcell hb_ws; have hs_ws := hb_ws.size; (try simp at hs_ws); (try have h1_ws : w.heap.size < ws.heap.size := by omega); (try have h3_ws : w.heap.size < ws.heap.size + 1 := by omega); (try have h4_ws : w.heap.size < ws.heap.size + 1 + 1 := by omega); (try have h5_ws : ¬ w.heap.size = ws.heap.size := by omega)))
  go_ret
  refine ⟨ret_bool ?_, by (repeat' (first | (with_reducible exact Below.refl _ _) | (with_reducible assumption) | (with_reducible refine below_drewN ?_ _) | (with_reducible refine Below.drew ?_) | ((with_reducible refine Below.alloc ?_ ?_ _); (rotate_left; focus (first | omega | (simp; done) | (simp; omega)))) | ((with_reducible refine Below.setCell ?_ ?_ _); (rotate_left; focus (first | omega | (simp; done) | (simp; omega)))) | (with_reducible refine Below.grown ?_ (by assumption) (by first | omega | (simp; omega)) (by simp [Value.ownBlock]; try omega)) | (with_reducible refine below_then ?_ (Aft.below _)) | (with_reducible apply below_then; rotate_left; assumption)))⟩
  have e1 : (synd (flipZ (flipZ (zs ++ [e8 zs]) x) y) == 0) = ((x : Int) == y) := by
    rw [Bool.eq_iff_iff, beq_iff_eq, beq_iff_eq, s2]; omega
  rw [e1, beq_self_eq_true]
theorem sumsBits_any (b0 b1 b2 b3 i k : Int) (w : World) (h00 : 0 ≤ b0) (h01 : b0 < 256) (h10 : 0 ≤ b1) (h11 : b1 < 256) (h20 : 0 ≤ b2) (h21 : b2 < 256) (h30 : 0 ≤ b3) (h31 : b3 < 256) (i0 : 0 ≤ i) (i1 : i < 256) (k0 : 0 ≤ k) (k1 : k < 256) :
    Calls Try.prog 3 #[.agg #[.int .u8 b0, .int .u8 b1, .int .u8 b2, .int .u8 b3], .int .u8 i, .int .u8 k] w fun e w' => e = .returned (.bool true) ∧ Below w.heap.size w w' := by
  obtain ⟨i, rfl⟩ := Int.eq_ofNat_of_zero_le i0
  obtain ⟨k, rfl⟩ := Int.eq_ofNat_of_zero_le k0
  exact sumsBits_go b0 b1 b2 b3 i k w (fun q hq => by simp at hq; omega) (by omega) (by omega)
end Go.Proofs.Ytlkfgldkgddgaaa
