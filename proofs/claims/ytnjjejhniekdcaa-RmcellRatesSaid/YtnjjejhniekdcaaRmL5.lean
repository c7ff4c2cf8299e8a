/- The walk of the law RmcellRates. -/
import Derived.Test.YtnjjejhniekdcaaRmL1
import Derived.Test.YtnjjejhniekdcaaRmN
namespace Go.Proofs.Ytnjjejhniekdcaa
set_option linter.unusedVariables false
set_option linter.unusedSimpArgs false
open Go.RowKit
set_option maxRecDepth 100000
set_option maxHeartbeats 4000000
theorem rgtZ_iff {x : Int} (h0 : 0 ≤ x) : rgtZ x = true ↔ x = 0 ∨ 16384 ≤ x ∧ x ≤ 32767 := by
  unfold rgtZ; rw [rgt_iff]; omega
theorem sclZ_zero : sclZ 0 = 0 := by kernel_rfl
theorem sclZ_pos {x : Int} (h1 : 16384 ≤ x) (h2 : x ≤ 32767) : 512 ≤ sclZ x := by
  have := sclZ_mono (a := 16384) (b := x) (by omega) h1 h2
  rw [sclZ_low] at this; exact this
theorem code_right {n c : Int} (h : IsCode n c) : rgtZ c = true := by
  rcases h with ⟨_, rfl⟩ | ⟨_, h2, h3, _, _⟩
  · exact (rgtZ_iff (by omega)).2 (.inl rfl)
  · exact (rgtZ_iff (by omega)).2 (.inr ⟨h2, h3⟩)
theorem code_ge {n c x : Int} (h : IsCode n c) (x0 : 0 ≤ x) (hx : rgtZ x = true) (hs : sclZ x ≤ n) : x ≤ c := by
  rcases (rgtZ_iff x0).1 hx with rfl | ⟨x1, x2⟩
  · rcases h with ⟨_, rfl⟩ | ⟨_, h2, _⟩ <;> omega
  · have := sclZ_pos x1 x2
    rcases h with ⟨h1, _⟩ | ⟨h1, h2, h3, h4, h5⟩
    · omega
    · by_cases hc : x ≤ c
      · exact hc
      · have a := h5 (by omega)
        have b := sclZ_mono (a := c + 1) (b := x) (by omega) (by omega) x2
        omega
theorem code_le {n c x : Int} (h : IsCode n c) (x0 : 0 ≤ x) (hx : rgtZ x = true) (hs : n ≤ sclZ x) : c ≤ x := by
  rcases h with ⟨h1, rfl⟩ | ⟨h1, h2, h3, h4, h5⟩
  · exact x0
  · rcases (rgtZ_iff x0).1 hx with rfl | ⟨x1, x2⟩
    · rw [sclZ_zero] at hs; omega
    · by_cases hc : c ≤ x
      · exact hc
      · have := sclZ_lt (a := x) (b := c) x1 (by omega) h3
        omega
theorem rates_plain {now peak floor er c : Int} {ci ni : Bool} (n0 : 0 ≤ now) (p0 : 0 ≤ peak) (f0 : 0 ≤ floor) (e0 : 0 ≤ er) (hn : rgtZ now = true) (hp : rgtZ peak = true) (hf : rgtZ floor = true) (he : rgtZ er = true) (h : IsCode (nextN now peak floor er ci ni) c) :
    floor ≤ c ∧ (c ≤ floor ∨ c ≤ peak ∧ c ≤ er) ∧ ((ci || ni) = true → c ≤ now ∨ c ≤ floor) ∧ (ci = true → c < now ∨ c ≤ floor ∨ sclZ now < 1024) := by
  have b1 := sclZ_b now; have b2 := sclZ_b peak; have b3 := sclZ_b floor; have b4 := sclZ_b er
  obtain ⟨N, hN⟩ : ∃ N, nextN now peak floor er ci ni = N := ⟨_, rfl⟩
  rw [hN] at h
  unfold nextN at hN
  obtain ⟨a, ha⟩ : ∃ a, next1 (sclZ now) (sclZ peak) ci ni = a := ⟨_, rfl⟩
  rw [ha] at hN
  refine ⟨code_ge h f0 hf (by omega), ?_, fun hc => ?_, fun hc => ?_⟩
  · by_cases h1 : N ≤ sclZ floor
    · exact .inl (code_le h f0 hf h1)
    · exact .inr ⟨code_le h p0 hp (by omega), code_le h e0 he (by omega)⟩
  · have hle : a ≤ sclZ now := by
      unfold next1 at ha
      cases ci <;> cases ni <;> simp only [Bool.false_eq_true, ↓reduceIte, Bool.or_false, Bool.or_true, Bool.or_self] at ha hc <;> omega
    by_cases h1 : N ≤ sclZ floor
    · exact .inr (code_le h f0 hf h1)
    · exact .inl (code_le h n0 hn (by omega))
  · subst hc
    have hle : a = sclZ now - sclZ now / 16 := by unfold next1 at ha; simp only [↓reduceIte] at ha; omega
    by_cases h1 : N ≤ sclZ floor
    · exact .inr (.inl (code_le h f0 hf h1))
    · by_cases h2 : sclZ now < 1024
      · exact .inr (.inr h2)
      · refine .inl ?_
        by_cases h3 : c < now
        · exact h3
        · rcases (rgtZ_iff n0).1 hn with rfl | ⟨x1, x2⟩
          · rw [sclZ_zero] at h2; omega
          · have hcb : c ≤ 32767 ∧ sclZ c ≤ N := by
              rcases h with ⟨g1, rfl⟩ | ⟨g1, g2, g3, g4, g5⟩
              · omega
              · exact ⟨g3, g4⟩
            have := sclZ_mono (a := now) (b := c) x1 (by omega) hcb.1
            omega
theorem ratesAwake (bk nr ci ni ra : Bool) (er cc mc ql sn now peak floor : Int) (w : World) (n0 : 0 ≤ now) (n1 : now < 65536) (p0 : 0 ≤ peak) (p1 : peak < 65536) (f0 : 0 ≤ floor) (f1 : floor < 65536) (e0 : 0 ≤ er) (e1 : er < 65536) (A B C D : Bool) (hA : Hid (rgtZ now = A)) (hB : Hid (rgtZ peak = B)) (hC : Hid (rgtZ floor = C)) (hD : Hid (rgtZ er = D)) (hno : (A && B && C && D) = false) :
    Calls Try.prog 7 #[.agg (rmV bk nr ci ni ra er cc mc ql sn).toArray, .int .u16 now, .int .u16 peak, .int .u16 floor] w fun e w' => e = .returned (.bool true) ∧ Below w.heap.size w w' := by
  cases A <;> cases B <;> cases C <;> cases D
  all_goals first | (exact absurd hno (by decide)) | skip
  all_goals
    go_enter Try.func7, Try.ntmps7
    go_wp2_with (first | (go_at_call 9; refine (awake13 _).mono ?_; rintro e wa ⟨rfl, hb_wa⟩; (try (have r5 := (RmAt.below (rmAt_at (bk := bk) (nr := nr) (ci := ci) (ni := ni) (ra := ra) (er := er) (cc := cc) (mc := mc) (ql := ql) (sn := sn) rfl) hb_wa).c5))) | (go_at_call 19; (with_reducible refine (right_int now _ n0 n1).mono ?_); rw [hA.out]; rintro e w' ⟨rfl, rfl⟩) | (go_at_call 19; (with_reducible refine (right_int peak _ p0 p1).mono ?_); rw [hB.out]; rintro e w' ⟨rfl, rfl⟩) | (go_at_call 19; (with_reducible refine (right_int floor _ f0 f1).mono ?_); rw [hC.out]; rintro e w' ⟨rfl, rfl⟩) | (go_at_call 19; (with_reducible refine (right_int er _ e0 e1).mono ?_); rw [hD.out]; rintro e w' ⟨rfl, rfl⟩))
    go_ret
    exact ⟨rfl, by (repeat' (first | (with_reducible exact Below.refl _ _) | (with_reducible assumption) | (with_reducible refine below_drewN ?_ _) | (with_reducible refine Below.drew ?_) | ((with_reducible refine Below.alloc ?_ ?_ _); (rotate_left; focus (first | omega | (simp; done) | (simp; omega)))) | ((with_reducible refine Below.setCell ?_ ?_ _); (rotate_left; focus (first | omega | (simp; done) | (simp; omega)))) | (with_reducible refine Below.grown ?_ (by assumption) (by first | omega | (simp; omega)) (by simp [Value.ownBlock]; try omega)) | (with_reducible refine below_then ?_ (Aft.below _)) | (with_reducible apply below_then; rotate_left; assumption)))⟩
theorem ratesWalk (bk nr ci ni ra : Bool) (er cc mc ql sn now peak floor : Int) (w : World) (h : RmOk er cc mc ql sn) (n0 : 0 ≤ now) (n1 : now < 65536) (p0 : 0 ≤ peak) (p1 : peak < 65536) (f0 : 0 ≤ floor) (f1 : floor < 65536) (hA : Hid (rgtZ now = true)) (hB : Hid (rgtZ peak = true)) (hC : Hid (rgtZ floor = true)) (hD : Hid (rgtZ er = true)) :
    Calls Try.prog 7 #[.agg (rmV bk nr ci ni ra er cc mc ql sn).toArray, .int .u16 now, .int .u16 peak, .int .u16 floor] w fun e w' => e = .returned (.bool true) ∧ Below w.heap.size w w' := by
  obtain ⟨c, hc⟩ := code_ex (nextN now peak floor er ci ni)
  have HC : Hid (IsCode (nextN now peak floor er ci ni) c) := hc
  obtain ⟨q1, q2, q3, q4⟩ := rates_plain n0 p0 f0 h.e0 hA.out hB.out hC.out hD.out hc
  have hr : Hid (rgtZ c = true) := code_right hc
  have cb : 0 ≤ c ∧ c < 65536 := by
    rcases hc with ⟨_, rfl⟩ | ⟨_, a, b, _, _⟩ <;> omega
  obtain ⟨c0, c1⟩ := cb
  obtain ⟨m1, hm1⟩ : ∃ m, (if er < peak then er else peak) = m := ⟨_, rfl⟩
  obtain ⟨m2, hm2⟩ : ∃ m, (if floor < m1 then m1 else floor) = m := ⟨_, rfl⟩
  obtain ⟨m3, hm3⟩ : ∃ m, (if now < floor then floor else now) = m := ⟨_, rfl⟩
  have t1 : ¬ c < floor := by omega
  have t2 : ¬ m2 < c := by omega
  have t3 : (ci || ni) = true → ¬ m3 < c := fun hh => by have := q3 hh; omega
  obtain ⟨sw, hsw⟩ : ∃ sw, sclZ now = sw := ⟨_, rfl⟩
  rw [hsw] at q4
  have HSW := Lib.hid hsw
  have hsb := sclZ_b now
  rw [hsw] at hsb
  have e0 := h.e0
  have e1 := h.e1
  clear hc q1 q2 q3 hsw
  have key : ci = false ∨ (ci = true ∧ c < now) ∨ (ci = true ∧ ¬ c < now ∧ c ≤ floor) ∨ (ci = true ∧ ¬ c < now ∧ ¬ c ≤ floor ∧ sw < 1024) := by
    cases ci with
    | false => exact .inl rfl
    | true =>
      have := q4 rfl
      by_cases g1 : c < now
      · exact .inr (.inl ⟨rfl, g1⟩)
      · by_cases g2 : c ≤ floor
        · exact .inr (.inr (.inl ⟨rfl, g1, g2⟩))
        · exact .inr (.inr (.inr ⟨rfl, g1, g2, by omega⟩))
  clear q4
  rcases key with rfl | ⟨rfl, g1⟩ | ⟨rfl, g1, g2⟩ | ⟨rfl, g1, g2, g3⟩
  · cases ni with
    | false =>
      clear t3
      go_enter Try.func7, Try.ntmps7
      go_wp2_with (first | (go_at_call 9; refine (awake13 _).mono ?_; rintro e wa ⟨rfl, hb_wa⟩; have RA_a := (RmAt.below (rmAt_at (bk := bk) (nr := nr) (ci := false) (ni := false) (ra := ra) (er := er) (cc := cc) (mc := mc) (ql := ql) (sn := sn) rfl) hb_wa); have r5 := RA_a.c5) | (go_at_call 19; (with_reducible refine (right_int now _ n0 n1).mono ?_); rw [hA.out]; rintro e w' ⟨rfl, rfl⟩) | (go_at_call 19; (with_reducible refine (right_int peak _ p0 p1).mono ?_); rw [hB.out]; rintro e w' ⟨rfl, rfl⟩) | (go_at_call 19; (with_reducible refine (right_int floor _ f0 f1).mono ?_); rw [hC.out]; rintro e w' ⟨rfl, rfl⟩) | (go_at_call 19; (with_reducible refine (right_int er _ e0 e1).mono ?_); rw [hD.out]; rintro e w' ⟨rfl, rfl⟩) | ((with_reducible refine wpList_load25G (rmV bk nr false false ra er cc mc ql sn) ?_ ?_ ?_); (focus rfl); (focus (exact ⟨_, rfl, rfl, rm_range RA_a⟩))) | ((with_reducible refine wpList_fill31 (w := wa) (rmV bk nr false false ra er cc mc ql sn) ?_ ?_); (focus (exact ⟨rfl, rfl, rfl, one_rm _ _ _ _ _ _ _ _ _ _, rfl⟩)); intro W1 hs_W1 hb_W1 R_1) | ((with_reducible refine wpList_load31 (rmV bk nr false false ra er cc mc ql sn) ?_ ?_); (focus (exact ⟨_, rfl, rfl, R_1⟩))) | (go_at_call 20; (with_reducible refine (next_is bk nr false false ra er cc mc ql sn now peak floor c _ n0 n1 p0 p1 f0 f1 e0 e1 HC).mono ?_); rintro e wn ⟨rfl, hb_wn⟩; have RN := (rm_of_range R_1).below hb_wn; have u2 := RN.c2; have u3 := RN.c3; have u5 := RN.c5) | (go_at_call 19; (with_reducible refine (right_int c _ c0 c1).mono ?_); rw [hr.out]; rintro e w' ⟨rfl, rfl⟩) | (go_at_call 21; (with_reducible refine (scaled_int now _ n0 n1).mono ?_); rw [HSW.out]; rintro e w' ⟨rfl, rfl⟩))
      (go_ret; exact ⟨rfl, (by have h1 : Below w.heap.size w wa := (by (repeat' (first | (with_reducible exact Below.refl _ _) | (with_reducible assumption) | (with_reducible refine below_drewN ?_ _) | (with_reducible refine Below.drew ?_) | ((with_reducible refine Below.alloc ?_ ?_ _); (rotate_left; focus (first | omega | (simp; done) | (simp; omega)))) | ((with_reducible refine Below.setCell ?_ ?_ _); (rotate_left; focus (first | omega | (simp; done) | (simp; omega)))) | (with_reducible refine Below.grown ?_ (by assumption) (by first | omega | (simp; omega)) (by simp [Value.ownBlock]; try omega)) | (with_reducible refine below_then ?_ (Aft.below _)) | (with_reducible apply below_then; rotate_left; assumption)))); have h2 := h1.trans (hb_W1.mono h1.size); exact h2.trans (hb_wn.mono h2.size))⟩)
    | true =>
      have t4 := t3 rfl
      clear t3
      go_enter Try.func7, Try.ntmps7
      go_wp2_with (first | (go_at_call 9; refine (awake13 _).mono ?_; rintro e wa ⟨rfl, hb_wa⟩; have RA_a := (RmAt.below (rmAt_at (bk := bk) (nr := nr) (ci := false) (ni := true) (ra := ra) (er := er) (cc := cc) (mc := mc) (ql := ql) (sn := sn) rfl) hb_wa); have r5 := RA_a.c5) | (go_at_call 19; (with_reducible refine (right_int now _ n0 n1).mono ?_); rw [hA.out]; rintro e w' ⟨rfl, rfl⟩) | (go_at_call 19; (with_reducible refine (right_int peak _ p0 p1).mono ?_); rw [hB.out]; rintro e w' ⟨rfl, rfl⟩) | (go_at_call 19; (with_reducible refine (right_int floor _ f0 f1).mono ?_); rw [hC.out]; rintro e w' ⟨rfl, rfl⟩) | (go_at_call 19; (with_reducible refine (right_int er _ e0 e1).mono ?_); rw [hD.out]; rintro e w' ⟨rfl, rfl⟩) | ((with_reducible refine wpList_load25G (rmV bk nr false true ra er cc mc ql sn) ?_ ?_ ?_); (focus rfl); (focus (exact ⟨_, rfl, rfl, rm_range RA_a⟩))) | ((with_reducible refine wpList_fill31 (w := wa) (rmV bk nr false true ra er cc mc ql sn) ?_ ?_); (focus (exact ⟨rfl, rfl, rfl, one_rm _ _ _ _ _ _ _ _ _ _, rfl⟩)); intro W1 hs_W1 hb_W1 R_1) | ((with_reducible refine wpList_load31 (rmV bk nr false true ra er cc mc ql sn) ?_ ?_); (focus (exact ⟨_, rfl, rfl, R_1⟩))) | (go_at_call 20; (with_reducible refine (next_is bk nr false true ra er cc mc ql sn now peak floor c _ n0 n1 p0 p1 f0 f1 e0 e1 HC).mono ?_); rintro e wn ⟨rfl, hb_wn⟩; have RN := (rm_of_range R_1).below hb_wn; have u2 := RN.c2; have u3 := RN.c3; have u5 := RN.c5) | (go_at_call 19; (with_reducible refine (right_int c _ c0 c1).mono ?_); rw [hr.out]; rintro e w' ⟨rfl, rfl⟩) | (go_at_call 21; (with_reducible refine (scaled_int now _ n0 n1).mono ?_); rw [HSW.out]; rintro e w' ⟨rfl, rfl⟩))
      (go_ret; exact ⟨rfl, (by have h1 : Below w.heap.size w wa := (by (repeat' (first | (with_reducible exact Below.refl _ _) | (with_reducible assumption) | (with_reducible refine below_drewN ?_ _) | (with_reducible refine Below.drew ?_) | ((with_reducible refine Below.alloc ?_ ?_ _); (rotate_left; focus (first | omega | (simp; done) | (simp; omega)))) | ((with_reducible refine Below.setCell ?_ ?_ _); (rotate_left; focus (first | omega | (simp; done) | (simp; omega)))) | (with_reducible refine Below.grown ?_ (by assumption) (by first | omega | (simp; omega)) (by simp [Value.ownBlock]; try omega)) | (with_reducible refine below_then ?_ (Aft.below _)) | (with_reducible apply below_then; rotate_left; assumption)))); have h2 := h1.trans (hb_W1.mono h1.size); exact h2.trans (hb_wn.mono h2.size))⟩)
  · cases ni with
    | false =>
      have t4 := t3 rfl
      clear t3
      go_enter Try.func7, Try.ntmps7
      go_wp2_with (first | (go_at_call 9; refine (awake13 _).mono ?_; rintro e wa ⟨rfl, hb_wa⟩; have RA_a := (RmAt.below (rmAt_at (bk := bk) (nr := nr) (ci := true) (ni := false) (ra := ra) (er := er) (cc := cc) (mc := mc) (ql := ql) (sn := sn) rfl) hb_wa); have r5 := RA_a.c5) | (go_at_call 19; (with_reducible refine (right_int now _ n0 n1).mono ?_); rw [hA.out]; rintro e w' ⟨rfl, rfl⟩) | (go_at_call 19; (with_reducible refine (right_int peak _ p0 p1).mono ?_); rw [hB.out]; rintro e w' ⟨rfl, rfl⟩) | (go_at_call 19; (with_reducible refine (right_int floor _ f0 f1).mono ?_); rw [hC.out]; rintro e w' ⟨rfl, rfl⟩) | (go_at_call 19; (with_reducible refine (right_int er _ e0 e1).mono ?_); rw [hD.out]; rintro e w' ⟨rfl, rfl⟩) | ((with_reducible refine wpList_load25G (rmV bk nr true false ra er cc mc ql sn) ?_ ?_ ?_); (focus rfl); (focus (exact ⟨_, rfl, rfl, rm_range RA_a⟩))) | ((with_reducible refine wpList_fill31 (w := wa) (rmV bk nr true false ra er cc mc ql sn) ?_ ?_); (focus (exact ⟨rfl, rfl, rfl, one_rm _ _ _ _ _ _ _ _ _ _, rfl⟩)); intro W1 hs_W1 hb_W1 R_1) | ((with_reducible refine wpList_load31 (rmV bk nr true false ra er cc mc ql sn) ?_ ?_); (focus (exact ⟨_, rfl, rfl, R_1⟩))) | (go_at_call 20; (with_reducible refine (next_is bk nr true false ra er cc mc ql sn now peak floor c _ n0 n1 p0 p1 f0 f1 e0 e1 HC).mono ?_); rintro e wn ⟨rfl, hb_wn⟩; have RN := (rm_of_range R_1).below hb_wn; have u2 := RN.c2; have u3 := RN.c3; have u5 := RN.c5) | (go_at_call 19; (with_reducible refine (right_int c _ c0 c1).mono ?_); rw [hr.out]; rintro e w' ⟨rfl, rfl⟩) | (go_at_call 21; (with_reducible refine (scaled_int now _ n0 n1).mono ?_); rw [HSW.out]; rintro e w' ⟨rfl, rfl⟩))
      (go_ret; exact ⟨rfl, (by have h1 : Below w.heap.size w wa := (by (repeat' (first | (with_reducible exact Below.refl _ _) | (with_reducible assumption) | (with_reducible refine below_drewN ?_ _) | (with_reducible refine Below.drew ?_) | ((with_reducible refine Below.alloc ?_ ?_ _); (rotate_left; focus (first | omega | (simp; done) | (simp; omega)))) | ((with_reducible refine Below.setCell ?_ ?_ _); (rotate_left; focus (first | omega | (simp; done) | (simp; omega)))) | (with_reducible refine Below.grown ?_ (by assumption) (by first | omega | (simp; omega)) (by simp [Value.ownBlock]; try omega)) | (with_reducible refine below_then ?_ (Aft.below _)) | (with_reducible apply below_then; rotate_left; assumption)))); have h2 := h1.trans (hb_W1.mono h1.size); exact h2.trans (hb_wn.mono h2.size))⟩)
    | true =>
      have t4 := t3 rfl
      clear t3
      go_enter Try.func7, Try.ntmps7
      go_wp2_with (first | (go_at_call 9; refine (awake13 _).mono ?_; rintro e wa ⟨rfl, hb_wa⟩; have RA_a := (RmAt.below (rmAt_at (bk := bk) (nr := nr) (ci := true) (ni := true) (ra := ra) (er := er) (cc := cc) (mc := mc) (ql := ql) (sn := sn) rfl) hb_wa); have r5 := RA_a.c5) | (go_at_call 19; (with_reducible refine (right_int now _ n0 n1).mono ?_); rw [hA.out]; rintro e w' ⟨rfl, rfl⟩) | (go_at_call 19; (with_reducible refine (right_int peak _ p0 p1).mono ?_); rw [hB.out]; rintro e w' ⟨rfl, rfl⟩) | (go_at_call 19; (with_reducible refine (right_int floor _ f0 f1).mono ?_); rw [hC.out]; rintro e w' ⟨rfl, rfl⟩) | (go_at_call 19; (with_reducible refine (right_int er _ e0 e1).mono ?_); rw [hD.out]; rintro e w' ⟨rfl, rfl⟩) | ((with_reducible refine wpList_load25G (rmV bk nr true true ra er cc mc ql sn) ?_ ?_ ?_); (focus rfl); (focus (exact ⟨_, rfl, rfl, rm_range RA_a⟩))) | ((with_reducible refine wpList_fill31 (w := wa) (rmV bk nr true true ra er cc mc ql sn) ?_ ?_); (focus (exact ⟨rfl, rfl, rfl, one_rm _ _ _ _ _ _ _ _ _ _, rfl⟩)); intro W1 hs_W1 hb_W1 R_1) | ((with_reducible refine wpList_load31 (rmV bk nr true true ra er cc mc ql sn) ?_ ?_); (focus (exact ⟨_, rfl, rfl, R_1⟩))) | (go_at_call 20; (with_reducible refine (next_is bk nr true true ra er cc mc ql sn now peak floor c _ n0 n1 p0 p1 f0 f1 e0 e1 HC).mono ?_); rintro e wn ⟨rfl, hb_wn⟩; have RN := (rm_of_range R_1).below hb_wn; have u2 := RN.c2; have u3 := RN.c3; have u5 := RN.c5) | (go_at_call 19; (with_reducible refine (right_int c _ c0 c1).mono ?_); rw [hr.out]; rintro e w' ⟨rfl, rfl⟩) | (go_at_call 21; (with_reducible refine (scaled_int now _ n0 n1).mono ?_); rw [HSW.out]; rintro e w' ⟨rfl, rfl⟩))
      (go_ret; exact ⟨rfl, (by have h1 : Below w.heap.size w wa := (by (repeat' (first | (with_reducible exact Below.refl _ _) | (with_reducible assumption) | (with_reducible refine below_drewN ?_ _) | (with_reducible refine Below.drew ?_) | ((with_reducible refine Below.alloc ?_ ?_ _); (rotate_left; focus (first | omega | (simp; done) | (simp; omega)))) | ((with_reducible refine Below.setCell ?_ ?_ _); (rotate_left; focus (first | omega | (simp; done) | (simp; omega)))) | (with_reducible refine Below.grown ?_ (by assumption) (by first | omega | (simp; omega)) (by simp [Value.ownBlock]; try omega)) | (with_reducible refine below_then ?_ (Aft.below _)) | (with_reducible apply below_then; rotate_left; assumption)))); have h2 := h1.trans (hb_W1.mono h1.size); exact h2.trans (hb_wn.mono h2.size))⟩)
  · cases ni with
    | false =>
      have t4 := t3 rfl
      clear t3
      go_enter Try.func7, Try.ntmps7
      go_wp2_with (first | (go_at_call 9; refine (awake13 _).mono ?_; rintro e wa ⟨rfl, hb_wa⟩; have RA_a := (RmAt.below (rmAt_at (bk := bk) (nr := nr) (ci := true) (ni := false) (ra := ra) (er := er) (cc := cc) (mc := mc) (ql := ql) (sn := sn) rfl) hb_wa); have r5 := RA_a.c5) | (go_at_call 19; (with_reducible refine (right_int now _ n0 n1).mono ?_); rw [hA.out]; rintro e w' ⟨rfl, rfl⟩) | (go_at_call 19; (with_reducible refine (right_int peak _ p0 p1).mono ?_); rw [hB.out]; rintro e w' ⟨rfl, rfl⟩) | (go_at_call 19; (with_reducible refine (right_int floor _ f0 f1).mono ?_); rw [hC.out]; rintro e w' ⟨rfl, rfl⟩) | (go_at_call 19; (with_reducible refine (right_int er _ e0 e1).mono ?_); rw [hD.out]; rintro e w' ⟨rfl, rfl⟩) | ((with_reducible refine wpList_load25G (rmV bk nr true false ra er cc mc ql sn) ?_ ?_ ?_); (focus rfl); (focus (exact ⟨_, rfl, rfl, rm_range RA_a⟩))) | ((with_reducible refine wpList_fill31 (w := wa) (rmV bk nr true false ra er cc mc ql sn) ?_ ?_); (focus (exact ⟨rfl, rfl, rfl, one_rm _ _ _ _ _ _ _ _ _ _, rfl⟩)); intro W1 hs_W1 hb_W1 R_1) | ((with_reducible refine wpList_load31 (rmV bk nr true false ra er cc mc ql sn) ?_ ?_); (focus (exact ⟨_, rfl, rfl, R_1⟩))) | (go_at_call 20; (with_reducible refine (next_is bk nr true false ra er cc mc ql sn now peak floor c _ n0 n1 p0 p1 f0 f1 e0 e1 HC).mono ?_); rintro e wn ⟨rfl, hb_wn⟩; have RN := (rm_of_range R_1).below hb_wn; have u2 := RN.c2; have u3 := RN.c3; have u5 := RN.c5) | (go_at_call 19; (with_reducible refine (right_int c _ c0 c1).mono ?_); rw [hr.out]; rintro e w' ⟨rfl, rfl⟩) | (go_at_call 21; (with_reducible refine (scaled_int now _ n0 n1).mono ?_); rw [HSW.out]; rintro e w' ⟨rfl, rfl⟩))
      (go_ret; exact ⟨rfl, (by have h1 : Below w.heap.size w wa := (by (repeat' (first | (with_reducible exact Below.refl _ _) | (with_reducible assumption) | (with_reducible refine below_drewN ?_ _) | (with_reducible refine Below.drew ?_) | ((with_reducible refine Below.alloc ?_ ?_ _); (rotate_left; focus (first | omega | (simp; done) | (simp; omega)))) | ((with_reducible refine Below.setCell ?_ ?_ _); (rotate_left; focus (first | omega | (simp; done) | (simp; omega)))) | (with_reducible refine Below.grown ?_ (by assumption) (by first | omega | (simp; omega)) (by simp [Value.ownBlock]; try omega)) | (with_reducible refine below_then ?_ (Aft.below _)) | (with_reducible apply below_then; rotate_left; assumption)))); have h2 := h1.trans (hb_W1.mono h1.size); exact h2.trans (hb_wn.mono h2.size))⟩)
    | true =>
      have t4 := t3 rfl
      clear t3
      go_enter Try.func7, Try.ntmps7
      go_wp2_with (first | (go_at_call 9; refine (awake13 _).mono ?_; rintro e wa ⟨rfl, hb_wa⟩; have RA_a := (RmAt.below (rmAt_at (bk := bk) (nr := nr) (ci := true) (ni := true) (ra := ra) (er := er) (cc := cc) (mc := mc) (ql := ql) (sn := sn) rfl) hb_wa); have r5 := RA_a.c5) | (go_at_call 19; (with_reducible refine (right_int now _ n0 n1).mono ?_); rw [hA.out]; rintro e w' ⟨rfl, rfl⟩) | (go_at_call 19; (with_reducible refine (right_int peak _ p0 p1).mono ?_); rw [hB.out]; rintro e w' ⟨rfl, rfl⟩) | (go_at_call 19; (with_reducible refine (right_int floor _ f0 f1).mono ?_); rw [hC.out]; rintro e w' ⟨rfl, rfl⟩) | (go_at_call 19; (with_reducible refine (right_int er _ e0 e1).mono ?_); rw [hD.out]; rintro e w' ⟨rfl, rfl⟩) | ((with_reducible refine wpList_load25G (rmV bk nr true true ra er cc mc ql sn) ?_ ?_ ?_); (focus rfl); (focus (exact ⟨_, rfl, rfl, rm_range RA_a⟩))) | ((with_reducible refine wpList_fill31 (w := wa) (rmV bk nr true true ra er cc mc ql sn) ?_ ?_); (focus (exact ⟨rfl, rfl, rfl, one_rm _ _ _ _ _ _ _ _ _ _, rfl⟩)); intro W1 hs_W1 hb_W1 R_1) | ((with_reducible refine wpList_load31 (rmV bk nr true true ra er cc mc ql sn) ?_ ?_); (focus (exact ⟨_, rfl, rfl, R_1⟩))) | (go_at_call 20; (with_reducible refine (next_is bk nr true true ra er cc mc ql sn now peak floor c _ n0 n1 p0 p1 f0 f1 e0 e1 HC).mono ?_); rintro e wn ⟨rfl, hb_wn⟩; have RN := (rm_of_range R_1).below hb_wn; have u2 := RN.c2; have u3 := RN.c3; have u5 := RN.c5) | (go_at_call 19; (with_reducible refine (right_int c _ c0 c1).mono ?_); rw [hr.out]; rintro e w' ⟨rfl, rfl⟩) | (go_at_call 21; (with_reducible refine (scaled_int now _ n0 n1).mono ?_); rw [HSW.out]; rintro e w' ⟨rfl, rfl⟩))
      (go_ret; exact ⟨rfl, (by have h1 : Below w.heap.size w wa := (by (repeat' (first | (with_reducible exact Below.refl _ _) | (with_reducible assumption) | (with_reducible refine below_drewN ?_ _) | (with_reducible refine Below.drew ?_) | ((with_reducible refine Below.alloc ?_ ?_ _); (rotate_left; focus (first | omega | (simp; done) | (simp; omega)))) | ((with_reducible refine Below.setCell ?_ ?_ _); (rotate_left; focus (first | omega | (simp; done) | (simp; omega)))) | (with_reducible refine Below.grown ?_ (by assumption) (by first | omega | (simp; omega)) (by simp [Value.ownBlock]; try omega)) | (with_reducible refine below_then ?_ (Aft.below _)) | (with_reducible apply below_then; rotate_left; assumption)))); have h2 := h1.trans (hb_W1.mono h1.size); exact h2.trans (hb_wn.mono h2.size))⟩)
  · cases ni with
    | false =>
      have t4 := t3 rfl
      clear t3
      go_enter Try.func7, Try.ntmps7
      go_wp2_with (first | (go_at_call 9; refine (awake13 _).mono ?_; rintro e wa ⟨rfl, hb_wa⟩; have RA_a := (RmAt.below (rmAt_at (bk := bk) (nr := nr) (ci := true) (ni := false) (ra := ra) (er := er) (cc := cc) (mc := mc) (ql := ql) (sn := sn) rfl) hb_wa); have r5 := RA_a.c5) | (go_at_call 19; (with_reducible refine (right_int now _ n0 n1).mono ?_); rw [hA.out]; rintro e w' ⟨rfl, rfl⟩) | (go_at_call 19; (with_reducible refine (right_int peak _ p0 p1).mono ?_); rw [hB.out]; rintro e w' ⟨rfl, rfl⟩) | (go_at_call 19; (with_reducible refine (right_int floor _ f0 f1).mono ?_); rw [hC.out]; rintro e w' ⟨rfl, rfl⟩) | (go_at_call 19; (with_reducible refine (right_int er _ e0 e1).mono ?_); rw [hD.out]; rintro e w' ⟨rfl, rfl⟩) | ((with_reducible refine wpList_load25G (rmV bk nr true false ra er cc mc ql sn) ?_ ?_ ?_); (focus rfl); (focus (exact ⟨_, rfl, rfl, rm_range RA_a⟩))) | ((with_reducible refine wpList_fill31 (w := wa) (rmV bk nr true false ra er cc mc ql sn) ?_ ?_); (focus (exact ⟨rfl, rfl, rfl, one_rm _ _ _ _ _ _ _ _ _ _, rfl⟩)); intro W1 hs_W1 hb_W1 R_1) | ((with_reducible refine wpList_load31 (rmV bk nr true false ra er cc mc ql sn) ?_ ?_); (focus (exact ⟨_, rfl, rfl, R_1⟩))) | (go_at_call 20; (with_reducible refine (next_is bk nr true false ra er cc mc ql sn now peak floor c _ n0 n1 p0 p1 f0 f1 e0 e1 HC).mono ?_); rintro e wn ⟨rfl, hb_wn⟩; have RN := (rm_of_range R_1).below hb_wn; have u2 := RN.c2; have u3 := RN.c3; have u5 := RN.c5) | (go_at_call 19; (with_reducible refine (right_int c _ c0 c1).mono ?_); rw [hr.out]; rintro e w' ⟨rfl, rfl⟩) | (go_at_call 21; (with_reducible refine (scaled_int now _ n0 n1).mono ?_); rw [HSW.out]; rintro e w' ⟨rfl, rfl⟩))
      (go_ret; exact ⟨rfl, (by have h1 : Below w.heap.size w wa := (by (repeat' (first | (with_reducible exact Below.refl _ _) | (with_reducible assumption) | (with_reducible refine below_drewN ?_ _) | (with_reducible refine Below.drew ?_) | ((with_reducible refine Below.alloc ?_ ?_ _); (rotate_left; focus (first | omega | (simp; done) | (simp; omega)))) | ((with_reducible refine Below.setCell ?_ ?_ _); (rotate_left; focus (first | omega | (simp; done) | (simp; omega)))) | (with_reducible refine Below.grown ?_ (by assumption) (by first | omega | (simp; omega)) (by simp [Value.ownBlock]; try omega)) | (with_reducible refine below_then ?_ (Aft.below _)) | (with_reducible apply below_then; rotate_left; assumption)))); have h2 := h1.trans (hb_W1.mono h1.size); exact h2.trans (hb_wn.mono h2.size))⟩)
    | true =>
      have t4 := t3 rfl
      clear t3
      go_enter Try.func7, Try.ntmps7
      go_wp2_with (first | (go_at_call 9; refine (awake13 _).mono ?_; rintro e wa ⟨rfl, hb_wa⟩; have RA_a := (RmAt.below (rmAt_at (bk := bk) (nr := nr) (ci := true) (ni := true) (ra := ra) (er := er) (cc := cc) (mc := mc) (ql := ql) (sn := sn) rfl) hb_wa); have r5 := RA_a.c5) | (go_at_call 19; (with_reducible refine (right_int now _ n0 n1).mono ?_); rw [hA.out]; rintro e w' ⟨rfl, rfl⟩) | (go_at_call 19; (with_reducible refine (right_int peak _ p0 p1).mono ?_); rw [hB.out]; rintro e w' ⟨rfl, rfl⟩) | (go_at_call 19; (with_reducible refine (right_int floor _ f0 f1).mono ?_); rw [hC.out]; rintro e w' ⟨rfl, rfl⟩) | (go_at_call 19; (with_reducible refine (right_int er _ e0 e1).mono ?_); rw [hD.out]; rintro e w' ⟨rfl, rfl⟩) | ((with_reducible refine wpList_load25G (rmV bk nr true true ra er cc mc ql sn) ?_ ?_ ?_); (focus rfl); (focus (exact ⟨_, rfl, rfl, rm_range RA_a⟩))) | ((with_reducible refine wpList_fill31 (w := wa) (rmV bk nr true true ra er cc mc ql sn) ?_ ?_); (focus (exact ⟨rfl, rfl, rfl, one_rm _ _ _ _ _ _ _ _ _ _, rfl⟩)); intro W1 hs_W1 hb_W1 R_1) | ((with_reducible refine wpList_load31 (rmV bk nr true true ra er cc mc ql sn) ?_ ?_); (focus (exact ⟨_, rfl, rfl, R_1⟩))) | (go_at_call 20; (with_reducible refine (next_is bk nr true true ra er cc mc ql sn now peak floor c _ n0 n1 p0 p1 f0 f1 e0 e1 HC).mono ?_); rintro e wn ⟨rfl, hb_wn⟩; have RN := (rm_of_range R_1).below hb_wn; have u2 := RN.c2; have u3 := RN.c3; have u5 := RN.c5) | (go_at_call 19; (with_reducible refine (right_int c _ c0 c1).mono ?_); rw [hr.out]; rintro e w' ⟨rfl, rfl⟩) | (go_at_call 21; (with_reducible refine (scaled_int now _ n0 n1).mono ?_); rw [HSW.out]; rintro e w' ⟨rfl, rfl⟩))
      (go_ret; exact ⟨rfl, (by have h1 : Below w.heap.size w wa := (by (repeat' (first | (with_reducible exact Below.refl _ _) | (with_reducible assumption) | (with_reducible refine below_drewN ?_ _) | (with_reducible refine Below.drew ?_) | ((with_reducible refine Below.alloc ?_ ?_ _); (rotate_left; focus (first | omega | (simp; done) | (simp; omega)))) | ((with_reducible refine Below.setCell ?_ ?_ _); (rotate_left; focus (first | omega | (simp; done) | (simp; omega)))) | (with_reducible refine Below.grown ?_ (by assumption) (by first | omega | (simp; omega)) (by simp [Value.ownBlock]; try omega)) | (with_reducible refine below_then ?_ (Aft.below _)) | (with_reducible apply below_then; rotate_left; assumption)))); have h2 := h1.trans (hb_W1.mono h1.size); exact h2.trans (hb_wn.mono h2.size))⟩)
namespace rmcellRates
theorem rmcellRates_any (bk0 nr0 ci0 ni0 ra0 : Bool) (er0 cc0 mc0 ql0 sn0 : Int) (n1 : Int) (n2 : Int) (n3 : Int) (w : World) (z1 : 0 ≤ er0) (z2 : er0 < 65536) (z3 : 0 ≤ cc0) (z4 : cc0 < 65536) (z5 : 0 ≤ mc0) (z6 : mc0 < 65536) (z7 : 0 ≤ ql0) (z8 : ql0 < 4294967296) (z9 : 0 ≤ sn0) (z10 : sn0 < 4294967296) (z11 : 0 ≤ n1) (z12 : n1 < 65536) (z13 : 0 ≤ n2) (z14 : n2 < 65536) (z15 : 0 ≤ n3) (z16 : n3 < 65536) :
    Calls Try.prog 7 #[.agg #[.bool bk0, .bool nr0, .bool ci0, .bool ni0, .bool ra0, .int .u16 er0, .int .u16 cc0, .int .u16 mc0, .int .u32 ql0, .int .u32 sn0], .int .u16 n1, .int .u16 n2, .int .u16 n3] w fun e w' => e = .returned (.bool true) ∧ Below w.heap.size w w' := by
  have h : RmOk er0 cc0 mc0 ql0 sn0 := ⟨z1, z2, z3, z4, z5, z6, z7, z8, z9, z10⟩
  cases hall : (rgtZ n1 && rgtZ n2 && rgtZ n3 && rgtZ er0) with
  | false => exact ratesAwake bk0 nr0 ci0 ni0 ra0 er0 cc0 mc0 ql0 sn0 n1 n2 n3 w z11 z12 z13 z14 z15 z16 z1 z2 _ _ _ _ rfl rfl rfl rfl hall
  | true =>
    simp only [Bool.and_eq_true] at hall
    exact ratesWalk bk0 nr0 ci0 ni0 ra0 er0 cc0 mc0 ql0 sn0 n1 n2 n3 w h z11 z12 z13 z14 z15 z16 hall.1.1.1 hall.1.1.2 hall.1.2 hall.2
end rmcellRates
end Go.Proofs.Ytnjjejhniekdcaa
