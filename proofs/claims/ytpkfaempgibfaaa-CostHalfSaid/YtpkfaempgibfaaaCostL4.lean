/- The walks of more laws of the layer 'cost', whole: each tells true, of every argument. -/
import Derived.Test.YtpkfaempgibfaaaCostW
import Derived.Test.YtpkfaempgibfaaaCostL
import Derived.Test.YtpkfaempgibfaaaContrF
import Derived.KernelRfl
namespace Go.Proofs.Ytpkfaempgibfaaa
set_option linter.unusedVariables false
set_option linter.unusedSimpArgs false
open Go.RowKit
set_option maxRecDepth 100000
set_option maxHeartbeats 4000000
theorem costHalf_any (a b c d : Int) (w : World) (a0 : 0 ≤ a) (a1 : a < 4294967296) (b0 : 0 ≤ b) (b1 : b < 4294967296) (c0 : 0 ≤ c) (c1 : c < 256) (d0 : 0 ≤ d) (d1 : d < 4294967296) :
    Calls Try.prog 12 #[.int .u32 a, .int .u32 b, .int .u8 c, .int .u32 d] w fun e w' => e = .returned (.bool true) ∧ Below w.heap.size w w' := by
  have f1 : FineP (2 + c % 3) (1 + a) 0 (1 + a + b) 4096 0 := by unfold FineP; omega
  have f2 : FineP (2 + c % 3) (1 + a) 0 (1 + a + b) d 0 := by unfold FineP; omega
  have n1 := needZ_vbr f1 (by omega)
  have n2 := needZ_vbr f2 (by omega)
  have r1 := rightZ_zero.2 f1
  have hWP := perZ_anti (a := 1 + a) (b := 1 + a + b) (by omega) (by omega)
  have h1 := mix_half (perZ (1 + a + b)) (perZ (1 + a))
  have h2 : d ≤ 4096 → mixZ (perZ (1 + a + b)) (perZ (1 + a)) d ≤ mixZ (perZ (1 + a + b)) (perZ (1 + a)) 4096 := fun h => mix_mono d0 h (Int.le_refl _) (Int.le_refl _) hWP
  have h3 : 4096 ≤ d → mixZ (perZ (1 + a + b)) (perZ (1 + a)) 4096 ≤ mixZ (perZ (1 + a + b)) (perZ (1 + a)) d := fun h => mix_mono (by omega) h (Int.le_refl _) (Int.le_refl _) hWP
  rw [← n1, ← n2] at h2 h3
  rw [← n1] at h1
  have b1 := perZ_b (1 + a)
  have b2 := perZ_b (1 + a + b)
  clear n1 n2 f1 f2 hWP
  have hd : d < 4096 ∨ d = 4096 ∨ 4096 < d := by omega
  rcases hd with hd | hd | hd
  all_goals
    first
    | (have h2 := h2 (by omega); have h3 := h3 (by omega))
    | (have h2 := h2 (by omega); clear h3)
    | (have h3 := h3 (by omega); clear h2)
    go_enter Try.func12, Try.ntmps12
    go_wp2_with (first | (go_at_call 26; refine (awake17 _).mono ?_; rintro e w' ⟨rfl, hb⟩; obtain ⟨hc, hf⟩ := bcell hb; have hz := hb.size; (try simp at hz); (try have hz1 : w.heap.size < w'.heap.size := by omega); (try have hz2 : w.heap.size + 1 < w'.heap.size := by omega)))
    go_quiet ((go_at_call 29; exact quiet_same (per_any _ _)))
    go_wp2_with fail
    refine (need_any _ _ _ _ _ _ _).mono ?_
    rintro e w2 ⟨rfl, hb2⟩
    obtain ⟨hc2, hf2⟩ := bcell hb2
    have hz2 : w'.heap.size < w2.heap.size := by have := hb2.size; simp at this; omega
    go_wp2_with fail
    refine (need_any _ _ _ _ _ _ _).mono ?_
    rintro e w3 ⟨rfl, hb3⟩
    obtain ⟨hc3, hf3⟩ := bcell hb3
    have hz3 : w'.heap.size < w2.heap.size + 1 := by omega
    have hne : ¬ w'.heap.size = w2.heap.size := by omega
    go_wp2_with (first | (go_at_call 32; refine (refCright_any _ _ _ _ _ _ _).mono ?_; rintro e w' ⟨rfl, hb⟩; obtain ⟨hc, hf⟩ := bcell hb; have hz := hb.size; (try simp at hz); (try have hz1 : w.heap.size < w'.heap.size := by omega); (try have hz2 : w.heap.size + 1 < w'.heap.size := by omega)))
    go_ret
    exact ⟨ret_bool (by simp; try omega), by (repeat' (first | exact Below.refl _ _ | assumption | (refine below_drewN ?_ _) | (refine Below.drew ?_) | (refine Below.alloc ?_ (by first | omega | (simp; done) | (simp; omega)) _) | (refine Below.setCell ?_ (by first | omega | (simp; done) | (simp; omega)) _) | (refine below_then ?_ (Aft.below _)) | (apply below_then; rotate_left; assumption)))⟩
end Go.Proofs.Ytpkfaempgibfaaa
