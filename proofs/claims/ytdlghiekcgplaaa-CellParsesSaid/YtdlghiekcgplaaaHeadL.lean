/- The walks of the laws HeaderKinds and HeaderSides, whole. -/
import Derived.Test.YtdlghiekcgplaaaHeadP
namespace Go.Proofs.Ytdlghiekcgplaaa
set_option linter.unusedVariables false
set_option linter.unusedSimpArgs false
open Go.RowKit
set_option maxRecDepth 100000
set_option maxHeartbeats 4000000
theorem kindZ_c {p c t l l' : Int} (h : c ≠ 0) : kindZ p c t l' = kindZ p c t l := by unfold kindZ; simp [h]
theorem kindZ_b (p c t l : Int) : 1 ≤ kindZ p c t l ∧ kindZ p c t l ≤ 10 := by unfold kindZ; repeat' split
                                                                               all_goals omega
theorem kindZ_n {p c t l : Int} (h : c ≠ 0) : kindZ p c t l ≠ 2 ∧ kindZ p c t l ≠ 3 := by
  unfold kindZ; simp [h]
  repeat' split
  all_goals omega
theorem kindZ_p {p t l : Int} (h : p ≠ 0) : kindZ p 0 t l = 10 := by unfold kindZ; simp [h]
theorem kindZ_u (t : Int) : kindZ 0 0 t 0 = 3 := by unfold kindZ; simp
theorem kindZ_i : kindZ 0 0 0 1 = 2 := by unfold kindZ; simp
theorem kindZ_r {t : Int} (h : t ≠ 0) : kindZ 0 0 t 1 = 10 := by unfold kindZ; simp [h]
theorem kindZ_l {t l : Int} (h0 : l ≠ 0) (h1 : l ≠ 1) : kindZ 0 0 t l = 10 := by unfold kindZ; simp [h0, h1]
attribute [local irreducible] rightH wordH
theorem alloc_cell {w : World} {b o : Nat} {v : Value} {ob : Obj} (h : b < w.heap.size) (hv : w.cell? ⟨b, o, none⟩ = some v) : (w.alloc ob).cell? ⟨b, o, none⟩ = some v :=
  (((Below.refl _ _).alloc (Nat.le_refl _) ob).cell (p := ⟨b, o, none⟩) h).trans hv
theorem awake02 (w : World) : Calls Try.prog 16 #[] w fun e w' => e = .returned (.bool true) ∧ Below w.heap.size w w' := by
  have c1 : rightH false 0 1 5 0 0 = true := by kernel_rfl
  have c2 : rightH true 0 0 0 0 0 = true := by kernel_rfl
  have c3 : kindZ 0 9 0 0 = 1 := by kernel_rfl
  have c4 : wordH false 0 1 5 0 0 = 1048656 := by kernel_rfl
  go_enter Try.func16, Try.ntmps16
  go_wp2_with (first | (go_at_call 18; refine (pack_yes _ _ _ _ _ _ _ c1).mono ?_; rw [c4]; rintro e w' ⟨b, rfl, hb1, hb2, r0, r1, r2, r3, hb⟩; obtain ⟨hc, hf⟩ := bcell hb; simp at r0 r1 r2 r3) | (go_at_call 24; refine (right_h _ _ _ _ _ _ _).mono ?_; rintro e w' ⟨rfl, hb⟩; obtain ⟨hc, hf⟩ := bcell hb; have hz := hb.size; (try simp at hz); (try have hz1 : w.heap.size < w'.heap.size := by omega); (try have hz2 : w.heap.size + 1 < w'.heap.size := by omega)) | (go_at_call 17; refine (kind_any _ _ _ _ _ _).mono ?_; rintro e w' ⟨rfl, hb⟩; obtain ⟨hc, hf⟩ := bcell hb; have hz := hb.size; (try simp at hz); (try have hz1 : w.heap.size < w'.heap.size := by omega); (try have hz2 : w.heap.size + 1 < w'.heap.size := by omega)) | (go_at_call 19; refine (same4 b _ _ _ 0 16 0 80 _ (alloc_cell hb2 r0) (alloc_cell hb2 r1) (alloc_cell hb2 r2) (alloc_cell hb2 r3) (cells_made_at _ (by unfold maxLen; simp) (by simp) 0 _ rfl) (cells_made_at _ (by unfold maxLen; simp) (by simp) 1 _ rfl) (cells_made_at _ (by unfold maxLen; simp) (by simp) 2 _ rfl) (cells_made_at _ (by unfold maxLen; simp) (by simp) 3 _ rfl)).mono ?_; rintro e w' ⟨rfl, hb⟩; obtain ⟨hc, hf⟩ := bcell hb; have hz := hb.size; (try simp at hz); (try have hz1 : w.heap.size < w'.heap.size := by omega); (try have hz2 : w.heap.size + 1 < w'.heap.size := by omega)))
  go_ret
  exact ⟨ret_bool (by simp), by (repeat' (first | exact Below.refl _ _ | assumption | (refine Below.grown ?_ (by assumption) (by first | omega | (simp; omega)) (by simp [Value.ownBlock]; try omega)) | (refine below_drewN ?_ _) | (refine Below.drew ?_) | (refine Below.alloc ?_ (by first | omega | (simp; done) | (simp; omega)) _) | (refine Below.setCell ?_ (by first | omega | (simp; done) | (simp; omega)) _) | (refine below_then ?_ (Aft.below _)) | (apply below_then; rotate_left; assumption)))⟩
theorem headerKinds_any (g p c t l gfc clp : Int) (w : World) (g0 : -9223372036854775808 ≤ g) (g1 : g ≤ 9223372036854775807) (p0 : -9223372036854775808 ≤ p) (p1 : p ≤ 9223372036854775807) (c0 : -9223372036854775808 ≤ c) (c1 : c ≤ 9223372036854775807) (t0 : -9223372036854775808 ≤ t) (t1 : t ≤ 9223372036854775807) (l0 : -9223372036854775808 ≤ l) (l1 : l ≤ 9223372036854775807) (gfc0 : -9223372036854775808 ≤ gfc) (gfc1 : gfc ≤ 9223372036854775807) (clp0 : -9223372036854775808 ≤ clp) (clp1 : clp ≤ 9223372036854775807) :
    Calls Try.prog 3 #[.agg #[.int .i64 g, .int .i64 p, .int .i64 c, .int .i64 t, .int .i64 l], .int .i64 gfc, .int .i64 clp] w fun e w' => e = .returned (.bool true) ∧ Below w.heap.size w w' := by
  clear g0 g1 p0 p1 c0 c1 t0 t1 l0 l1 gfc0 gfc1 clp0 clp1
  by_cases hc : c = 0
  · subst hc
    by_cases hp : p = 0
    · subst hp
      by_cases h0 : l = 0
      · subst h0
        have k := kindZ_u t
        (go_enter Try.func3, Try.ntmps3; go_wp2_with (first | (go_at_call 16; refine (awake02 _).mono ?_; rintro e w' ⟨rfl, hb⟩; obtain ⟨hc, hf⟩ := bcell hb; have hz := hb.size; (try simp at hz); (try have hz1 : w.heap.size < w'.heap.size := by omega); (try have hz2 : w.heap.size + 1 < w'.heap.size := by omega)) | (go_at_call 17; refine (kind_any _ _ _ _ _ _).mono ?_; rintro e w' ⟨rfl, hb⟩; obtain ⟨hc, hf⟩ := bcell hb; have hz := hb.size; (try simp at hz); (try have hz1 : w.heap.size < w'.heap.size := by omega); (try have hz2 : w.heap.size + 1 < w'.heap.size := by omega))); all_goals (go_ret; exact ⟨ret_bool (by simp), by (repeat' (first | exact Below.refl _ _ | assumption | (refine Below.grown ?_ (by assumption) (by first | omega | (simp; omega)) (by simp [Value.ownBlock]; try omega)) | (refine below_drewN ?_ _) | (refine Below.drew ?_) | (refine Below.alloc ?_ (by first | omega | (simp; done) | (simp; omega)) _) | (refine Below.setCell ?_ (by first | omega | (simp; done) | (simp; omega)) _) | (refine below_then ?_ (Aft.below _)) | (apply below_then; rotate_left; assumption)))⟩))
      · by_cases h1 : l = 1
        · subst h1
          by_cases ht : t = 0
          · subst ht
            have k := kindZ_i
            (go_enter Try.func3, Try.ntmps3; go_wp2_with (first | (go_at_call 16; refine (awake02 _).mono ?_; rintro e w' ⟨rfl, hb⟩; obtain ⟨hc, hf⟩ := bcell hb; have hz := hb.size; (try simp at hz); (try have hz1 : w.heap.size < w'.heap.size := by omega); (try have hz2 : w.heap.size + 1 < w'.heap.size := by omega)) | (go_at_call 17; refine (kind_any _ _ _ _ _ _).mono ?_; rintro e w' ⟨rfl, hb⟩; obtain ⟨hc, hf⟩ := bcell hb; have hz := hb.size; (try simp at hz); (try have hz1 : w.heap.size < w'.heap.size := by omega); (try have hz2 : w.heap.size + 1 < w'.heap.size := by omega))); all_goals (go_ret; exact ⟨ret_bool (by simp), by (repeat' (first | exact Below.refl _ _ | assumption | (refine Below.grown ?_ (by assumption) (by first | omega | (simp; omega)) (by simp [Value.ownBlock]; try omega)) | (refine below_drewN ?_ _) | (refine Below.drew ?_) | (refine Below.alloc ?_ (by first | omega | (simp; done) | (simp; omega)) _) | (refine Below.setCell ?_ (by first | omega | (simp; done) | (simp; omega)) _) | (refine below_then ?_ (Aft.below _)) | (apply below_then; rotate_left; assumption)))⟩))
          · have k := kindZ_r ht
            have kt : (t == 0) = false := by simp; exact ht
            (go_enter Try.func3, Try.ntmps3; go_wp2_with (first | (go_at_call 16; refine (awake02 _).mono ?_; rintro e w' ⟨rfl, hb⟩; obtain ⟨hc, hf⟩ := bcell hb; have hz := hb.size; (try simp at hz); (try have hz1 : w.heap.size < w'.heap.size := by omega); (try have hz2 : w.heap.size + 1 < w'.heap.size := by omega)) | (go_at_call 17; refine (kind_any _ _ _ _ _ _).mono ?_; rintro e w' ⟨rfl, hb⟩; obtain ⟨hc, hf⟩ := bcell hb; have hz := hb.size; (try simp at hz); (try have hz1 : w.heap.size < w'.heap.size := by omega); (try have hz2 : w.heap.size + 1 < w'.heap.size := by omega))); all_goals (go_ret; exact ⟨ret_bool (by simp), by (repeat' (first | exact Below.refl _ _ | assumption | (refine Below.grown ?_ (by assumption) (by first | omega | (simp; omega)) (by simp [Value.ownBlock]; try omega)) | (refine below_drewN ?_ _) | (refine Below.drew ?_) | (refine Below.alloc ?_ (by first | omega | (simp; done) | (simp; omega)) _) | (refine Below.setCell ?_ (by first | omega | (simp; done) | (simp; omega)) _) | (refine below_then ?_ (Aft.below _)) | (apply below_then; rotate_left; assumption)))⟩))
        · have k := kindZ_l (t := t) h0 h1
          have k0 : (l == 0) = false := by simp; exact h0
          have k1 : (l == 1) = false := by simp; exact h1
          (go_enter Try.func3, Try.ntmps3; go_wp2_with (first | (go_at_call 16; refine (awake02 _).mono ?_; rintro e w' ⟨rfl, hb⟩; obtain ⟨hc, hf⟩ := bcell hb; have hz := hb.size; (try simp at hz); (try have hz1 : w.heap.size < w'.heap.size := by omega); (try have hz2 : w.heap.size + 1 < w'.heap.size := by omega)) | (go_at_call 17; refine (kind_any _ _ _ _ _ _).mono ?_; rintro e w' ⟨rfl, hb⟩; obtain ⟨hc, hf⟩ := bcell hb; have hz := hb.size; (try simp at hz); (try have hz1 : w.heap.size < w'.heap.size := by omega); (try have hz2 : w.heap.size + 1 < w'.heap.size := by omega))); all_goals (go_ret; exact ⟨ret_bool (by simp), by (repeat' (first | exact Below.refl _ _ | assumption | (refine Below.grown ?_ (by assumption) (by first | omega | (simp; omega)) (by simp [Value.ownBlock]; try omega)) | (refine below_drewN ?_ _) | (refine Below.drew ?_) | (refine Below.alloc ?_ (by first | omega | (simp; done) | (simp; omega)) _) | (refine Below.setCell ?_ (by first | omega | (simp; done) | (simp; omega)) _) | (refine below_then ?_ (Aft.below _)) | (apply below_then; rotate_left; assumption)))⟩))
    · have k := kindZ_p (t := t) (l := l) hp
      have k0 : (p == 0) = false := by simp; exact hp
      (go_enter Try.func3, Try.ntmps3; go_wp2_with (first | (go_at_call 16; refine (awake02 _).mono ?_; rintro e w' ⟨rfl, hb⟩; obtain ⟨hc, hf⟩ := bcell hb; have hz := hb.size; (try simp at hz); (try have hz1 : w.heap.size < w'.heap.size := by omega); (try have hz2 : w.heap.size + 1 < w'.heap.size := by omega)) | (go_at_call 17; refine (kind_any _ _ _ _ _ _).mono ?_; rintro e w' ⟨rfl, hb⟩; obtain ⟨hc, hf⟩ := bcell hb; have hz := hb.size; (try simp at hz); (try have hz1 : w.heap.size < w'.heap.size := by omega); (try have hz2 : w.heap.size + 1 < w'.heap.size := by omega))); all_goals (go_ret; exact ⟨ret_bool (by simp), by (repeat' (first | exact Below.refl _ _ | assumption | (refine Below.grown ?_ (by assumption) (by first | omega | (simp; omega)) (by simp [Value.ownBlock]; try omega)) | (refine below_drewN ?_ _) | (refine Below.drew ?_) | (refine Below.alloc ?_ (by first | omega | (simp; done) | (simp; omega)) _) | (refine Below.setCell ?_ (by first | omega | (simp; done) | (simp; omega)) _) | (refine below_then ?_ (Aft.below _)) | (apply below_then; rotate_left; assumption)))⟩))
  · have e := kindZ_c (p := p) (t := t) (l := l) (l' := clp) hc
    have hb := kindZ_b p c t l
    have hn := kindZ_n (p := p) (t := t) (l := l) hc
    have k0 : (c == 0) = false := by simp; exact hc
    obtain ⟨X, hX⟩ : ∃ X, kindZ p c t l = X := ⟨_, rfl⟩
    rw [hX] at e hb hn
    obtain ⟨b1, b2⟩ := hb
    have n2 : (X == 2) = false := by simp; exact hn.1
    have n3 : (X == 3) = false := by simp; exact hn.2
    clear hn
    (go_enter Try.func3, Try.ntmps3; go_wp2_with (first | (go_at_call 16; refine (awake02 _).mono ?_; rintro e w' ⟨rfl, hb⟩; obtain ⟨hc, hf⟩ := bcell hb; have hz := hb.size; (try simp at hz); (try have hz1 : w.heap.size < w'.heap.size := by omega); (try have hz2 : w.heap.size + 1 < w'.heap.size := by omega)) | (go_at_call 17; refine (kind_any _ _ _ _ _ _).mono ?_; rintro e w' ⟨rfl, hb⟩; obtain ⟨hc, hf⟩ := bcell hb; have hz := hb.size; (try simp at hz); (try have hz1 : w.heap.size < w'.heap.size := by omega); (try have hz2 : w.heap.size + 1 < w'.heap.size := by omega))); all_goals (go_ret; exact ⟨ret_bool (by simp), by (repeat' (first | exact Below.refl _ _ | assumption | (refine Below.grown ?_ (by assumption) (by first | omega | (simp; omega)) (by simp [Value.ownBlock]; try omega)) | (refine below_drewN ?_ _) | (refine Below.drew ?_) | (refine Below.alloc ?_ (by first | omega | (simp; done) | (simp; omega)) _) | (refine Below.setCell ?_ (by first | omega | (simp; done) | (simp; omega)) _) | (refine below_then ?_ (Aft.below _)) | (apply below_then; rotate_left; assumption)))⟩))
end Go.Proofs.Ytdlghiekcgplaaa
