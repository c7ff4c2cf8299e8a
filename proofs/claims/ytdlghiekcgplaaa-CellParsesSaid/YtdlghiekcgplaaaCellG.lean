/- slices.Grow of nothing, slices.Concat of two rows of bytes. -/
import Derived.Test.YtdlghiekcgplaaaCellS
import Derived.Test.YtdlghiekcgplaaaSumsU
import Derived.Lib.AppendZerosOnto
import Derived.Lib.AppendZeros
namespace Go.Proofs.Ytdlghiekcgplaaa
set_option linter.unusedVariables false
set_option linter.unusedSimpArgs false
open Go.RowKit
set_option maxRecDepth 100000
set_option maxHeartbeats 4000000
theorem grow_any (n : Nat) (w : World) (hn : 0 < n) (hm : n ≤ 65536) :
    Calls Try.prog 51 #[.slice none 0 0, .int .i64 n] w fun e w' => ∃ v, e = .returned v ∧ OwnB w' w.heap.size v 0 [] ∧ Below w.heap.size w w' := by
  obtain ⟨inf, hin, hi0, hi1, hi2⟩ := info_parts u8Info
  have hold : (Builtin.firstCells inf.size 0 (.slice none 0 0)).run Try.prog w.drew = .ok ([] : List Value).toArray w.drew := run_firstCells_none _ _ _ _ _
  have h := fun ty => Lib.run_append_grow_zeros w 27 3 ty 5 inf _ .i64 .i64 Try.underlying27 Try.underlying3 hin hi0 none 0 0 [] hold n hn (by omega) (by omega) (by omega) (by rw [hi2]; omega) (growslice_fits (by omega) (by rw [hi2]; omega))
  simp only [Nat.zero_add] at h
  obtain ⟨G, hG⟩ : ∃ G, grownCap w n 0 5 = G := ⟨_, rfl⟩
  have hGn : n ≤ G := hG ▸ grownCap_ge w n 0 _
  have hGm : G ≤ maxLen := hG ▸ grownCap_le_maxLen w n 0 _ (by unfold maxLen; omega)
  obtain ⟨cs, hcs⟩ : ∃ cs, ([] : List Value).toArray ++ Builtin.zeroCells (Value.int .u8 0).cells n ++ Builtin.zeroCells (Value.int .u8 0).cells (grownCap w n 0 5 - n) = cs := ⟨_, rfl⟩
  have hsz : cs.size = G * 1 := by
    rw [← hcs, hG]
    simp [size_zeroCells, Value.cells]
    omega
  rw [hcs, hG] at h
  have hG63 : G ≤ 9223372036854775807 := by unfold maxLen at hGm; omega
  clear hold hcs hG
  go_enter Try.func51, Try.ntmps51
  have hn1 : ¬ ((n : Int) < 0) := by omega
  have hn2 : (0 : Int) < (n : Int) := by omega
  go_wp2_with (at_builtin; refine Lib.wpList_append_run _ rfl _ _ _ _ rfl _ _ rfl rfl _ _ (h _) ?_)
  all_goals (go_ret; exact ⟨_, rfl, ⟨World.ownsRow_made w.drew cs G (Nat.le_refl _) hGm hsz, by simp⟩, by (repeat' (first | (with_reducible exact Below.refl _ _) | (with_reducible assumption) | (with_reducible refine below_drewN ?_ _) | (with_reducible refine Below.drew ?_) | ((with_reducible refine Below.alloc ?_ ?_ _); (rotate_left; focus (first | omega | (simp; done) | (simp; omega)))) | ((with_reducible refine Below.setCell ?_ ?_ _); (rotate_left; focus (first | omega | (simp; done) | (simp; omega)))) | (with_reducible refine Below.grown ?_ (by assumption) (by first | omega | (simp; omega)) (by simp [Value.ownBlock]; try omega)) | (with_reducible refine below_then ?_ (Aft.below _)) | (with_reducible apply below_then; rotate_left; assumption)))⟩)
theorem concat_any {g cap n1 c1 n2 c2 : Nat} {a1 a2 : Option Addr} {xs ys : List Int} (w : World) (h0 : w.cell? ⟨g, 0, none⟩ = some (.slice a1 n1 c1)) (h1 : w.cell? ⟨g, 1, none⟩ = some (.slice a2 n2 c2)) (hx : BytesAt w a1 n1 xs) (hy : BytesAt w a2 n2 ys)
    (no1 : a1 = none → c1 = 0) (no2 : a2 = none → c2 = 0) (hp : 0 < n1 + n2) (hm : n1 + n2 ≤ 65536) :
    Calls Try.prog 43 #[.slice (some ⟨g, 0, none⟩) 2 cap] w fun e w' => ∃ v, e = .returned v ∧ OwnB w' w.heap.size v (n1 + n2) (xs ++ ys) ∧ Below w.heap.size w w' := by
  have hg : g < w.heap.size := World.block_lt_of_cell? w _ h0
  go_enter Try.func43, Try.ntmps43
  have e1 : ¬ ((n1 : Int) < 0) := by omega
  have e2 : ¬ ((n1 : Int) + n2 < 0) := by omega
  have b1 : n1 ≤ 65536 := by omega
  have b2 : n2 ≤ 65536 := by omega
  go_wp2
  refine wp_loop_rounds 3 ?_
  rw [rounds_succ]
  go_wp2
  rw [rounds_succ]
  go_wp2
  rw [rounds_succ]
  go_wp2_with (go_at_call 51; (rw [show (n1 : Int) + (n2 : Int) = ((n1 + n2 : Nat) : Int) by push_cast; rfl]); (with_reducible refine (grow_any _ _ hp hm).mono ?_); rintro e w1 ⟨v1, rfl, own1, hb_w1⟩; obtain ⟨hc_w1, hf_w1⟩ := bcell hb_w1)
  refine wp_loop_rounds 3 ?_
  rw [rounds_succ]
  go_wp2_with (at_builtin; refine wpList_append_bytes rfl _ _ rfl (v := v1) (n := 0) (xs := []) (ad := a1) (m := n1) (c := c1) (ys := xs) (base := w.heap.size) rfl ?qa rfl ?qb no1 ?qc ?qd ?_; (case qa => exact own1); (case qb => exact hx.below hb_w1); (case qc => omega); (case qd => exact hb_w1.size); intro v2 w2 own2 hgr; simp only [Nat.zero_add, List.nil_append] at own2; have hb_w2 : Below w.heap.size w w2 := Below.trans hb_w1 hgr; obtain ⟨hc_w2, hf_w2⟩ := bcell hb_w2)
  clear hc_w1 hf_w1
  rw [rounds_succ]
  go_wp2_with (at_builtin; refine wpList_append_bytes rfl _ _ rfl (v := v2) (n := n1) (xs := xs) (ad := a2) (m := n2) (c := c2) (ys := ys) (base := w.heap.size) rfl ?qa rfl ?qb no2 ?qc ?qd ?_; (case qa => exact own2); (case qb => exact hy.below hb_w2); (case qc => omega); (case qd => exact hb_w2.size); intro v3 w3 own3 hgr3; have hb_w3 : Below w.heap.size w w3 := Below.trans hb_w2 hgr3)
  rw [rounds_succ]
  go_wp2
  go_ret
  exact ⟨_, rfl, own3, hb_w3⟩
end Go.Proofs.Ytdlghiekcgplaaa
