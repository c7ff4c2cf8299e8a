/- Plain law: what one kind drops another one tags. No program is in sight here. -/
import Derived.Test.YtndmmhljphlhjaaPolP
namespace Go.Proofs.Ytndmmhljphlhjaa
set_option linter.unusedVariables false
set_option linter.unusedSimpArgs false
def KInv (c d : Pz) (S S' : S4) (T : Int) : Prop := S.n1 ≤ T + c.s1 ∧ S'.n1 ≤ T + d.s1 ∧ S.n2 = S'.n2 ∧ S.a2 = S'.a2
theorem kinds_step {c d : Pz} (hc : c.has = true ∧ c.zero = true ∧ c.tag = false ∧ c.al = false ∧ 0 ≤ c.e1 ∧ 0 ≤ c.s1) (hd : d.has = true ∧ d.zero = true ∧ d.tag = true ∧ d.al = false ∧ d.s1 = c.s1 ∧ d.s2 = c.s2 ∧ d.e1 = c.e1 ∧ d.e2 = c.e2)
    {S S' : S4} {T t : Int} (h : KInv c d S S' T) (h1 : T + c.s1 ≤ t) (t0 : 0 ≤ t) (t1 : t ≤ 1152921504606846976) :
    (c.last S t true = 1 ∧ d.last S' t true = 1 ∨ c.last S t true = 3 ∧ d.last S' t true = 2) ∧ KInv c d (c.nxt S t true) (d.nxt S' t true) t := by
  obtain ⟨c1, c2, c3, c4, c5, c6⟩ := hc
  obtain ⟨d1, d2, d3, d4, d5, d6, d7, d8⟩ := hd
  obtain ⟨k1, k2, k3, k4⟩ := h
  have f1 : c.f1 S t = true := fits_of (by omega) t0 t1
  have g1 : d.f1 S' t = true := fits_of (by omega) t0 t1
  have hf : d.f2 S' t = c.f2 S t := by unfold Pz.f2; rw [d8, ← k3, ← k4]
  have ac : c.as2 true = true := by unfold Pz.as2; simp [c1]
  have ad : d.as2 true = true := by unfold Pz.as2; simp [d1]
  cases e : c.f2 S t
  · have vc : c.verd S t true = 3 := by unfold Pz.verd; simp [f1, ac, e, c3]
    have vd : d.verd S' t true = 2 := by unfold Pz.verd; simp [g1, ad, hf, e, d3]
    refine ⟨.inr ⟨by unfold Pz.last finZ; simp [vc], by unfold Pz.last finZ; simp [vd]⟩, ?_⟩
    unfold KInv Pz.nxt
    simp only [vc, vd]
    simp
    rw [nextB_of t0 t1]
    refine ⟨by omega, by omega, k3, k4⟩
  · have vc : c.verd S t true = 1 := by unfold Pz.verd; simp [f1, ac, e, c3]
    have vd : d.verd S' t true = 1 := by unfold Pz.verd; simp [g1, ad, hf, e, d3]
    refine ⟨.inl ⟨by unfold Pz.last finZ; simp [vc, c4], by unfold Pz.last finZ; simp [vd, d4]⟩, ?_⟩
    unfold KInv Pz.nxt
    simp only [vc, vd, ac, ad]
    simp
    rw [nextB_of t0 t1, nextB_of t0 t1, d6, k3]
    refine ⟨by omega, by omega, rfl⟩
theorem KInv.zero {c d : Pz} (hc : 0 ≤ c.s1) (hd : 0 ≤ d.s1) : KInv c d S4.zero S4.zero 0 := ⟨by unfold S4.zero; simp; exact hc, by unfold S4.zero; simp; exact hd, rfl, rfl⟩
end Go.Proofs.Ytndmmhljphlhjaa
