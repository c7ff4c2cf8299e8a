/- Plain law: two policers whose times are apart by as much. No program is in sight here. -/
import Derived.Test.YtndmmhljphlhjaaPolP
namespace Go.Proofs.Ytndmmhljphlhjaa
set_option linter.unusedVariables false
set_option linter.unusedSimpArgs false
def ShB (y n n' : Int) (a : Bool) : Prop := (a = true → n' = n + y) ∧ (a = false → n = 0 ∧ n' = 0)
def Sh (y : Int) (S S' : S4) : Prop := (S'.a1 = S.a1 ∧ ShB y S.n1 S'.n1 S.a1) ∧ (S'.a2 = S.a2 ∧ ShB y S.n2 S'.n2 S.a2)
theorem Sh.zero (y : Int) : Sh y S4.zero S4.zero := ⟨⟨rfl, ⟨fun h => (by cases h), fun _ => ⟨rfl, rfl⟩⟩⟩, ⟨rfl, ⟨fun h => (by cases h), fun _ => ⟨rfl, rfl⟩⟩⟩⟩
theorem sh_fits {y n n' e t : Int} {a : Bool} (h : ShB y n n' a) (y0 : 0 ≤ y) (t0 : 0 ≤ t) (t1 : t + y ≤ 1152921504606846976) : fitsB e n' a (t + y) = fitsB e n a t := by
  unfold fitsB
  rw [clampZ_id t0 (by omega), clampZ_id (by omega) t1]
  cases a
  · rfl
  · have := h.1 rfl
    subst this
    congr 1
    rw [decide_eq_decide]
    omega
theorem sh_next {y n n' s t : Int} {a : Bool} (h : ShB y n n' a) (y0 : 0 ≤ y) (t0 : 0 ≤ t) (t1 : t + y ≤ 1152921504606846976) : ShB y (nextB s n t) (nextB s n' (t + y)) true := by
  rw [nextB_of t0 (by omega), nextB_of (by omega) t1]
  refine ⟨fun _ => ?_, fun h => by cases h⟩
  cases a
  · obtain ⟨h1, h2⟩ := h.2 rfl
    omega
  · have := h.1 rfl
    omega
theorem sh_step {y : Int} {c : Pz} {S S' : S4} (h : Sh y S S') (y0 : 0 ≤ y) {t : Int} (t0 : 0 ≤ t) (t1 : t + y ≤ 1152921504606846976) (z : Bool) :
    c.last S' (t + y) z = c.last S t z ∧ Sh y (c.nxt S t z) (c.nxt S' (t + y) z) := by
  obtain ⟨⟨h1, h2⟩, h3, h4⟩ := h
  have f1 : c.f1 S' (t + y) = c.f1 S t := by unfold Pz.f1; rw [h1]; exact sh_fits h2 y0 t0 t1
  have f2 : c.f2 S' (t + y) = c.f2 S t := by unfold Pz.f2; rw [h3]; exact sh_fits h4 y0 t0 t1
  have hv : c.verd S' (t + y) z = c.verd S t z := by unfold Pz.verd; rw [f1, f2]
  refine ⟨by unfold Pz.last; rw [hv], ?_⟩
  unfold Pz.nxt
  rw [hv]
  constructor
  · dsimp only
    split
    · exact ⟨h1, h2⟩
    · exact ⟨rfl, sh_next h2 y0 t0 t1⟩
  · dsimp only
    split
    · exact ⟨rfl, sh_next h4 y0 t0 t1⟩
    · exact ⟨h3, h4⟩
end Go.Proofs.Ytndmmhljphlhjaa
