/- What the laws of the layer 'sums' begin with. -/
import Derived.Test.YtlkfgldkgddgaaaRef01
import Derived.Lib.SlBytesConst
namespace Go.Proofs.Ytlkfgldkgddgaaa
set_option linter.unusedVariables false
set_option linter.unusedSimpArgs false
open Go.RowKit
set_option maxRecDepth 100000
set_option maxHeartbeats 4000000
/-- bytes in a block that has just been laid. -/
theorem bytes_row {w : World} {g : Nat} {E : TypeId} {fr : Nat × Nat} (zs : List Int) (hg : w.heap[g]? = some (.cells (zs.map (Value.int .u8)).toArray E fr)) (hb : ∀ z ∈ zs, 0 ≤ z ∧ z < 256) (hm : zs.length ≤ 140737488355328) :
    BytesAt w (some ⟨g, 0, none⟩) zs.length zs := by
  refine ⟨rfl, hm, fun k => ?_, fun _ => ⟨g, 0, rfl, ?_, fun k hk => ?_⟩⟩
  · by_cases hk : k < zs.length
    · rw [List.getElem?_eq_getElem hk]; exact hb _ (List.getElem_mem hk)
    · rw [List.getElem?_eq_none (by omega)]; simp
  · rcases Nat.lt_or_ge g w.heap.size with h' | h'
    · exact h'
    · simp [Array.getElem?_eq_none h'] at hg
  · rw [Nat.zero_add, cell_of_row w g k _ _ _ hg]
    simp [hk]
theorem bytes_lit {w : World} {E : TypeId} {fr : Nat × Nat} (zs : List Int) (hb : ∀ z ∈ zs, 0 ≤ z ∧ z < 256) (hm : zs.length ≤ 140737488355328) : BytesAt (w.alloc (.cells (zs.map (Value.int .u8)).toArray E fr)) (some ⟨w.heap.size, 0, none⟩) zs.length zs :=
  bytes_row zs (heap_alloc_new _ _) hb hm
theorem awake01 (w : World) : Calls Try.prog 15 #[] w fun e w' => e = .returned (.bool true) ∧ Below w.heap.size w w' := by
  have b1 : bitV 1 = .tuple #[.int .i64 39, .bool true] := by kernel_rfl
  have b2 : e8 [0, 0, 0, 1] = 82 := by kernel_rfl
  have b3 : l32 [49, 50, 51, 52, 53, 54, 55, 56, 57] = 4236843288 := by kernel_rfl
  have kc := fun (w : World) (C : Array Value) (n c : Nat) => Lib.run_convert_bytes_const (P := Try.prog) w 24 5 C n c Try.underlying24 Try.underlying5
  go_enter Try.func15, Try.ntmps15
  go_wp2_with (first | (go_at_call 18; refine (bit_any 1 _ (by omega) (by omega)).mono ?_; rw [b1]; rintro e wb ⟨rfl, hb_wb⟩; obtain ⟨hc_wb, hf_wb⟩ := bcell hb_wb; have hs_wb := hb_wb.size; (try simp at hs_wb); (try have h1_wb : w.heap.size < wb.heap.size := by omega); (try have h3_wb : w.heap.size < wb.heap.size + 1 := by omega); (try have h4_wb : w.heap.size < wb.heap.size + 1 + 1 := by omega); (try have h5_wb : ¬ w.heap.size = wb.heap.size := by omega)) | (go_at_call 16; refine (eight_at (bytes_lit [0, 0, 0, 1] (by decide) (by decide))).mono ?_; rw [b2]; rintro e wc ⟨rfl, hb_wc⟩; obtain ⟨hc_wc, hf_wc⟩ := bcell hb_wc; have hs_wc := hb_wc.size; (try simp at hs_wc); (try have h1_wc : w.heap.size < wc.heap.size := by omega); (try have h3_wc : w.heap.size < wc.heap.size + 1 := by omega); (try have h4_wc : w.heap.size < wc.heap.size + 1 + 1 := by omega); (try have h5_wc : ¬ w.heap.size = wc.heap.size := by omega)) | (go_at_call 24; refine (long_at (bytes_lit [49, 50, 51, 52, 53, 54, 55, 56, 57] (by decide) (by decide))).mono ?_; rw [b3]; rintro e wd ⟨rfl, hb_wd⟩; obtain ⟨hc_wd, hf_wd⟩ := bcell hb_wd; have hs_wd := hb_wd.size; (try simp at hs_wd); (try have h1_wd : w.heap.size < wd.heap.size := by omega); (try have h3_wd : w.heap.size < wd.heap.size + 1 := by omega); (try have h4_wd : w.heap.size < wd.heap.size + 1 + 1 := by omega); (try have h5_wd : ¬ w.heap.size = wd.heap.size := by omega)))
  go_ret
  exact ⟨ret_bool (by simp), by (repeat' (first | (with_reducible exact Below.refl _ _) | (with_reducible assumption) | (with_reducible refine below_drewN ?_ _) | (with_reducible refine Below.drew ?_) | ((with_reducible refine Below.alloc ?_ ?_ _); (rotate_left; focus (first | omega | (simp; done) | (simp; omega)))) | ((with_reducible refine Below.setCell ?_ ?_ _); (rotate_left; focus (first | omega | (simp; done) | (simp; omega)))) | (with_reducible refine Below.grown ?_ (by assumption) (by first | omega | (simp; omega)) (by simp [Value.ownBlock]; try omega)) | (with_reducible refine below_then ?_ (Aft.below _)) | (with_reducible apply below_then; rotate_left; assumption)))⟩
end Go.Proofs.Ytlkfgldkgddgaaa
