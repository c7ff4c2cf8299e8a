/- From when on a cell passes: a policer as one thing. -/
import Derived.Test.YtndmmhljphlhjaaPolD
import Derived.Test.YtndmmhljphlhjaaPolP
namespace Go.Proofs.Ytndmmhljphlhjaa
set_option linter.unusedVariables false
set_option linter.unusedSimpArgs false
open Go.RowKit
set_option maxRecDepth 100000
set_option maxHeartbeats 4000000
def Pz.due (c : Pz) (S : S4) (z : Bool) : Int := if c.as2 z = true then max (max 0 (dueB c.e1 S.n1 S.a1)) (dueB c.e2 S.n2 S.a2) else max 0 (dueB c.e1 S.n1 S.a1)
theorem due_eq (c : Pz) (S : S4) {b1 b2 : Nat} (h : b1 ≠ b2) (z : Bool) : dueF (S.st b1 b2) ((c.l b1 b2).filter (fun r => r.asks z)) = c.due S z := by
  have h2 := st_two S h
  have h1 := st_one S b1 b2
  obtain ⟨s1, e1, s2, e2, has, zero, tag, al⟩ := c
  cases has <;> cases zero <;> cases z <;> simp [dueF, Pz.due, Pz.l, Pz.as2, Rs.asks, h1, h2]
theorem due_S {lo hi : Nat} {c : Pz} {S : S4} {c0 c1 c2 c3 : Int} {P : Nat} (clp : Int) (z : Bool) (hz : (clp == 0) = z) (w : World) (h : PolS lo hi c S c0 c1 c2 c3 P w) (hM : S.Bd 2305843009213693952) :
    Calls Try.prog 33 #[.pointer (some ⟨P, 0, none⟩), .int .i64 clp] w fun e w' => e = .returned (.int .i64 (c.due S z)) ∧ Below w.heap.size w w' := by
  obtain ⟨ra, cap, d1, d2, hn, h1, h2, h3, h4, ok, hP⟩ := h
  have hM2 : S.Bd 4611686018427387904 := by unfold S4.Bd at hM ⊢; omega
  rw [← due_eq c S hn]
  exact due_any clp z hz w ok hP (Pz.bd hM2 d1 d2)
theorem due_at {lo hi : Nat} {c : Pz} {S : S4} {c0 c1 c2 c3 : Int} {P : Nat} {clp D : Int} {z : Bool} {w : World} (hz : (clp == 0) = z) (h : PolS lo hi c S c0 c1 c2 c3 P w) (hM : S.Bd 2305843009213693952) (hD : c.due S z = D) :
    Calls Try.prog 33 #[.pointer (some ⟨P, 0, none⟩), .int .i64 clp] w fun e w' => e = .returned (.int .i64 D) ∧ Below w.heap.size w w' := by
  subst hD
  exact due_S clp z hz w h hM
theorem due_mono (c : Pz) (S : S4) : c.due S false ≤ c.due S true := by
  unfold Pz.due Pz.as2
  cases c.has <;> cases c.zero <;> simp <;> omega
theorem due_nonneg (c : Pz) (S : S4) (z : Bool) : 0 ≤ c.due S z := by
  unfold Pz.due
  split <;> omega
theorem fits_due {e n t : Int} {a : Bool} (h : dueB e n a ≤ t) (b0 : 0 ≤ t) (b1 : t ≤ 1152921504606846976) : fitsB e n a t = true := by
  unfold fitsB
  cases a
  · rfl
  · unfold dueB at h
    rw [if_pos rfl] at h
    rw [clampZ_id b0 b1, decide_eq_true (by omega), Bool.or_true]
theorem due_pass (c : Pz) (S : S4) (z : Bool) (h : c.due S z ≤ 1152921504606846976) : c.verd S (c.due S z) z = 1 := by
  obtain ⟨t, ht⟩ : ∃ t, c.due S z = t := ⟨_, rfl⟩
  have h0 := due_nonneg c S z
  rw [ht] at h h0 ⊢
  have f1 : c.f1 S t = true := fits_due (by unfold Pz.due at ht; split at ht <;> omega) h0 h
  unfold Pz.verd
  rw [f1, if_neg (by simp), if_neg]
  intro hh
  cases ha : c.as2 z
  · rw [ha] at hh; simp at hh
  · have f2 : c.f2 S t = true := fits_due (by unfold Pz.due at ht; rw [if_pos ha] at ht; omega) h0 h
    rw [f2, ha] at hh
    simp at hh
end Go.Proofs.Ytndmmhljphlhjaa
