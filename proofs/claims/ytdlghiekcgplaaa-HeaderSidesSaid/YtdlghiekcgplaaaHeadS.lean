/- The walk of the law HeaderSides, whole. -/
import Derived.Test.YtdlghiekcgplaaaHeadL
namespace Go.Proofs.Ytdlghiekcgplaaa
set_option linter.unusedVariables false
set_option linter.unusedSimpArgs false
open Go.RowKit
set_option maxRecDepth 100000
set_option maxHeartbeats 4000000
theorem rightH_iff (nni : Bool) (g p c t l : Int) : rightH nni g p c t l = true ↔ (0 ≤ g ∧ g < (if nni then 1 else 16) ∧ 0 ≤ p ∧ p < (if nni then 4096 else 256) ∧ 0 ≤ c ∧ c < 65536 ∧ 0 ≤ t ∧ t < 8 ∧ 0 ≤ l ∧ l < 2) := by
  unfold rightH; simp only [decide_eq_true_eq]
theorem wordH_zero (p c t l : Int) : wordH true 0 p c t l = wordH false 0 p c t l := by unfold wordH; simp
attribute [local irreducible] rightH wordH
theorem headerSides_any (g p c t l : Int) (w : World) (g0 : -9223372036854775808 ≤ g) (g1 : g ≤ 9223372036854775807) (p0 : -9223372036854775808 ≤ p) (p1 : p ≤ 9223372036854775807) (c0 : -9223372036854775808 ≤ c) (c1 : c ≤ 9223372036854775807) (t0 : -9223372036854775808 ≤ t) (t1 : t ≤ 9223372036854775807) (l0 : -9223372036854775808 ≤ l) (l1 : l ≤ 9223372036854775807) :
    Calls Try.prog 4 #[.agg #[.int .i64 g, .int .i64 p, .int .i64 c, .int .i64 t, .int .i64 l]] w fun e w' => e = .returned (.bool true) ∧ Below w.heap.size w w' := by
  clear g0 g1 p0 p1 c0 c1 t0 t1 l0 l1
  have if' := rightH_iff false g p c t l
  have it' := rightH_iff true g p c t l
  simp only [if_true, Bool.false_eq_true, if_false] at if' it'
  by_cases hg : g = 0
  · subst hg
    by_cases hrf : rightH false 0 p c t l = true
    · have hw := wordH_zero p c t l
      have hrt : rightH true 0 p c t l = true := it'.2 (by have := if'.1 hrf; omega)
      clear if' it'
      go_enter Try.func4, Try.ntmps4
      go_wp2_with (first | (go_at_call 16; refine (awake02 _).mono ?_; rintro e w' ⟨rfl, hb⟩; obtain ⟨hc, hf⟩ := bcell hb; have hz := hb.size; (try simp at hz); (try have hz1 : w.heap.size < w'.heap.size := by omega); (try have hz2 : w.heap.size + 1 < w'.heap.size := by omega)) | (go_at_call 18; refine (pack_yes _ _ _ _ _ _ _ (by assumption)).mono ?_; rintro e w' ⟨b, rfl, hu1, hu2, r0, r1, r2, r3, hb⟩; (try rw [hw] at r0 r1 r2 r3); obtain ⟨hc, hf⟩ := bcell hb; have hz := hb.size; (try simp at hz); (try have hz1 : w.heap.size < w'.heap.size := by omega)) | (go_at_call 19; refine (same4 _ _ _ _ _ _ _ _ _ ((hb.cell (p := ⟨_, 0, none⟩) (by assumption)).trans (by assumption)) ((hb.cell (p := ⟨_, 1, none⟩) (by assumption)).trans (by assumption)) ((hb.cell (p := ⟨_, 2, none⟩) (by assumption)).trans (by assumption)) ((hb.cell (p := ⟨_, 3, none⟩) (by assumption)).trans (by assumption)) r0 r1 r2 r3).mono ?_; rintro e w' ⟨rfl, hb⟩; obtain ⟨hc, hf⟩ := bcell hb; have hz := hb.size; (try simp at hz); (try have hz1 : w.heap.size < w'.heap.size := by omega); (try have hz2 : w.heap.size + 1 < w'.heap.size := by omega)))
      go_ret
      exact ⟨ret_bool (by simp), by (repeat' (first | exact Below.refl _ _ | assumption | (refine Below.grown ?_ (by assumption) (by first | omega | (simp; omega)) (by simp [Value.ownBlock]; try omega)) | (refine below_drewN ?_ _) | (refine Below.drew ?_) | (refine Below.alloc ?_ (by first | omega | (simp; done) | (simp; omega)) _) | (refine Below.setCell ?_ (by first | omega | (simp; done) | (simp; omega)) _) | (refine below_then ?_ (Aft.below _)) | (apply below_then; rotate_left; assumption)))⟩
    · have hrf' : rightH false 0 p c t l = false := by simpa using hrf
      by_cases hrt : rightH true 0 p c t l = true
      · have hp : 255 < p := by have h1 := it'.1 hrt; rcases Int.lt_or_le 255 p with h | h; exact h; exact absurd (if'.2 (by omega)) hrf
        clear if' it' hrf
        go_enter Try.func4, Try.ntmps4
        go_wp2_with (first | (go_at_call 16; refine (awake02 _).mono ?_; rintro e w' ⟨rfl, hb⟩; obtain ⟨hc, hf⟩ := bcell hb; have hz := hb.size; (try simp at hz); (try have hz1 : w.heap.size < w'.heap.size := by omega); (try have hz2 : w.heap.size + 1 < w'.heap.size := by omega)) | (go_at_call 18; refine (pack_no _ _ _ _ _ _ _ (by assumption)).mono ?_; rintro e w' ⟨rfl, hb⟩; obtain ⟨hc, hf⟩ := bcell hb; have hz := hb.size; (try simp at hz); (try have hz1 : w.heap.size < w'.heap.size := by omega); (try have hz2 : w.heap.size + 1 < w'.heap.size := by omega)) | (go_at_call 18; refine (pack_yes _ _ _ _ _ _ _ (by assumption)).mono ?_; rintro e w' ⟨b, rfl, hu1, hu2, r0, r1, r2, r3, hb⟩; obtain ⟨hc, hf⟩ := bcell hb; have hz := hb.size; (try simp at hz); (try have hz1 : w.heap.size < w'.heap.size := by omega)))
        go_ret
        exact ⟨ret_bool (by simp), by (repeat' (first | exact Below.refl _ _ | assumption | (refine Below.grown ?_ (by assumption) (by first | omega | (simp; omega)) (by simp [Value.ownBlock]; try omega)) | (refine below_drewN ?_ _) | (refine Below.drew ?_) | (refine Below.alloc ?_ (by first | omega | (simp; done) | (simp; omega)) _) | (refine Below.setCell ?_ (by first | omega | (simp; done) | (simp; omega)) _) | (refine below_then ?_ (Aft.below _)) | (apply below_then; rotate_left; assumption)))⟩
      · have hrt' : rightH true 0 p c t l = false := by simpa using hrt
        clear if' it' hrf hrt
        go_enter Try.func4, Try.ntmps4
        go_wp2_with (first | (go_at_call 16; refine (awake02 _).mono ?_; rintro e w' ⟨rfl, hb⟩; obtain ⟨hc, hf⟩ := bcell hb; have hz := hb.size; (try simp at hz); (try have hz1 : w.heap.size < w'.heap.size := by omega); (try have hz2 : w.heap.size + 1 < w'.heap.size := by omega)) | (go_at_call 18; refine (pack_no _ _ _ _ _ _ _ (by assumption)).mono ?_; rintro e w' ⟨rfl, hb⟩; obtain ⟨hc, hf⟩ := bcell hb; have hz := hb.size; (try simp at hz); (try have hz1 : w.heap.size < w'.heap.size := by omega); (try have hz2 : w.heap.size + 1 < w'.heap.size := by omega)))
        go_ret
        exact ⟨ret_bool (by simp), by (repeat' (first | exact Below.refl _ _ | assumption | (refine Below.grown ?_ (by assumption) (by first | omega | (simp; omega)) (by simp [Value.ownBlock]; try omega)) | (refine below_drewN ?_ _) | (refine Below.drew ?_) | (refine Below.alloc ?_ (by first | omega | (simp; done) | (simp; omega)) _) | (refine Below.setCell ?_ (by first | omega | (simp; done) | (simp; omega)) _) | (refine below_then ?_ (Aft.below _)) | (apply below_then; rotate_left; assumption)))⟩
  · have hg' : (g == 0) = false := by simp; exact hg
    have hrt' : rightH true g p c t l = false := by
      cases h : rightH true g p c t l
      · rfl
      · exact absurd (it'.1 h) (by omega)
    by_cases hrf : rightH false g p c t l = true
    · clear if' it'
      go_enter Try.func4, Try.ntmps4
      go_wp2_with (first | (go_at_call 16; refine (awake02 _).mono ?_; rintro e w' ⟨rfl, hb⟩; obtain ⟨hc, hf⟩ := bcell hb; have hz := hb.size; (try simp at hz); (try have hz1 : w.heap.size < w'.heap.size := by omega); (try have hz2 : w.heap.size + 1 < w'.heap.size := by omega)) | (go_at_call 18; refine (pack_no _ _ _ _ _ _ _ (by assumption)).mono ?_; rintro e w' ⟨rfl, hb⟩; obtain ⟨hc, hf⟩ := bcell hb; have hz := hb.size; (try simp at hz); (try have hz1 : w.heap.size < w'.heap.size := by omega); (try have hz2 : w.heap.size + 1 < w'.heap.size := by omega)) | (go_at_call 18; refine (pack_yes _ _ _ _ _ _ _ (by assumption)).mono ?_; rintro e w' ⟨b, rfl, hu1, hu2, r0, r1, r2, r3, hb⟩; obtain ⟨hc, hf⟩ := bcell hb; have hz := hb.size; (try simp at hz); (try have hz1 : w.heap.size < w'.heap.size := by omega)))
      go_ret
      exact ⟨ret_bool (by simp), by (repeat' (first | exact Below.refl _ _ | assumption | (refine Below.grown ?_ (by assumption) (by first | omega | (simp; omega)) (by simp [Value.ownBlock]; try omega)) | (refine below_drewN ?_ _) | (refine Below.drew ?_) | (refine Below.alloc ?_ (by first | omega | (simp; done) | (simp; omega)) _) | (refine Below.setCell ?_ (by first | omega | (simp; done) | (simp; omega)) _) | (refine below_then ?_ (Aft.below _)) | (apply below_then; rotate_left; assumption)))⟩
    · have hrf' : rightH false g p c t l = false := by simpa using hrf
      clear if' it' hrf
      go_enter Try.func4, Try.ntmps4
      go_wp2_with (first | (go_at_call 16; refine (awake02 _).mono ?_; rintro e w' ⟨rfl, hb⟩; obtain ⟨hc, hf⟩ := bcell hb; have hz := hb.size; (try simp at hz); (try have hz1 : w.heap.size < w'.heap.size := by omega); (try have hz2 : w.heap.size + 1 < w'.heap.size := by omega)) | (go_at_call 18; refine (pack_no _ _ _ _ _ _ _ (by assumption)).mono ?_; rintro e w' ⟨rfl, hb⟩; obtain ⟨hc, hf⟩ := bcell hb; have hz := hb.size; (try simp at hz); (try have hz1 : w.heap.size < w'.heap.size := by omega); (try have hz2 : w.heap.size + 1 < w'.heap.size := by omega)))
      go_ret
      exact ⟨ret_bool (by simp), by (repeat' (first | exact Below.refl _ _ | assumption | (refine Below.grown ?_ (by assumption) (by first | omega | (simp; omega)) (by simp [Value.ownBlock]; try omega)) | (refine below_drewN ?_ _) | (refine Below.drew ?_) | (refine Below.alloc ?_ (by first | omega | (simp; done) | (simp; omega)) _) | (refine Below.setCell ?_ (by first | omega | (simp; done) | (simp; omega)) _) | (refine below_then ?_ (Aft.below _)) | (apply below_then; rotate_left; assumption)))⟩
end Go.Proofs.Ytdlghiekcgplaaa
