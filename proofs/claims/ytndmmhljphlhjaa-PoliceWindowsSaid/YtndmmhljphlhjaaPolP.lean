/- Plain laws of a policer: spaced cells pass; a dropped cell turns nothing; later by as much. No program is in sight here. -/
import Derived.Test.YtndmmhljphlhjaaPolCl
namespace Go.Proofs.Ytndmmhljphlhjaa
set_option linter.unusedVariables false
set_option linter.unusedSimpArgs false
theorem fits_of {e n t : Int} {a : Bool} (h : n - e ≤ t) (b0 : 0 ≤ t) (b1 : t ≤ 1152921504606846976) : fitsB e n a t = true := by
  unfold fitsB
  rw [clampZ_id b0 b1, decide_eq_true h, Bool.or_true]
theorem nextB_of {s n t : Int} (b0 : 0 ≤ t) (b1 : t ≤ 1152921504606846976) : nextB s n t = max n t + s := by
  unfold nextB
  rw [clampZ_id b0 b1]
theorem spaced_step {c : Pz} (ok : c.Ok) {S : S4} {t t' : Int} (h1 : S.n1 ≤ t + c.s1) (h2 : c.has = true → S.n2 ≤ t + c.s2) (t1 : t + c.s1 ≤ t') (t2 : c.has = true → t + c.s2 ≤ t') (b0 : 0 ≤ t') (b1 : t' ≤ 1152921504606846976) (z : Bool) :
    c.verd S t' z = 1 ∧ (c.nxt S t' z).n1 ≤ t' + c.s1 ∧ (c.has = true → (c.nxt S t' z).n2 ≤ t' + c.s2) := by
  have f1 : c.f1 S t' = true := fits_of (by have := ok.e1; omega) b0 b1
  have hv : c.verd S t' z = 1 := by
    unfold Pz.verd
    rw [f1, if_neg (by simp)]
    rw [if_neg]
    intro h
    have hh : c.has = true := by
      unfold Pz.as2 at h
      cases e : c.has
      · rw [e] at h; simp at h
      · rfl
    have f2 : c.f2 S t' = true := fits_of (by have := ok.e2 hh; have := h2 hh; have := t2 hh; omega) b0 b1
    rw [f2] at h
    simp at h
  refine ⟨hv, ?_, fun hh => ?_⟩
  · unfold Pz.nxt
    rw [hv]
    dsimp only
    rw [if_neg (by omega), nextB_of b0 b1]
    omega
  · unfold Pz.nxt
    rw [hv]
    have := h2 hh
    have := t2 hh
    have := (ok.s2 hh).1
    dsimp only
    split
    · rw [nextB_of b0 b1]; omega
    · omega
theorem last_pass {c : Pz} {S : S4} {t : Int} {z : Bool} (h : c.verd S t z = 1) : c.last S t z = if (c.al && z) = true then 2 else 1 := by
  unfold Pz.last finZ
  rw [h]
  cases c.al <;> cases z <;> simp
/-- what holds of counts behind so many cells. -/
def Cnt (i : Nat) (c0 c1 c2 c3 : Int) : Prop := (0 ≤ c0 ∧ c0 ≤ (i : Int)) ∧ (0 ≤ c1 ∧ c1 ≤ (i : Int)) ∧ (0 ≤ c2 ∧ c2 ≤ (i : Int)) ∧ (0 ≤ c3 ∧ c3 ≤ (i : Int))
theorem hit_bd (v k : Int) : 0 ≤ hit v k ∧ hit v k ≤ 1 := by unfold hit; split <;> omega
theorem Cnt.step {i : Nat} {c0 c1 c2 c3 : Int} (h : Cnt i c0 c1 c2 c3) (v : Int) : Cnt (i + 1) (c0 + 1) (c1 + hit v 1) (c2 + hit v 2) (c3 + hit v 3) := by
  obtain ⟨h0, h1, h2, h3⟩ := h
  have a1 := hit_bd v 1
  have a2 := hit_bd v 2
  have a3 := hit_bd v 3
  refine ⟨?_, ?_, ?_, ?_⟩ <;> omega
theorem Cnt.le {i : Nat} {c0 c1 c2 c3 : Int} (h : Cnt i c0 c1 c2 c3) (hi : i ≤ 1000) : (0 ≤ c0 ∧ c0 ≤ 1000000) ∧ (0 ≤ c1 ∧ c1 ≤ 1000000) ∧ (0 ≤ c2 ∧ c2 ≤ 1000000) ∧ (0 ≤ c3 ∧ c3 ≤ 1000000) := by
  obtain ⟨h0, h1, h2, h3⟩ := h
  refine ⟨?_, ?_, ?_, ?_⟩ <;> omega
/-- the bound behind so many cells. -/
def Grw (i : Nat) (S : S4) : Prop := S.Bd (1152921504606846976 + 1099511627776 * (i : Int))
theorem Grw.step {c : Pz} (ok : c.Ok) {i : Nat} {S : S4} (h : Grw i S) (t : Int) (z : Bool) : Grw (i + 1) (c.nxt S t z) := by
  have := Pz.nxt_bd ok h (by omega) t z
  unfold Grw
  have e : (1152921504606846976 : Int) + 1099511627776 * ((i + 1 : Nat) : Int) = 1152921504606846976 + 1099511627776 * (i : Int) + 1099511627776 := by omega
  rw [e]; exact this
theorem Grw.le {i : Nat} {S : S4} (h : Grw i S) (hi : i ≤ 1000) : S.Bd 2305843009213693952 := by
  obtain ⟨⟨h1, h2⟩, h3, h4⟩ := h
  exact ⟨⟨h1, by omega⟩, h3, by omega⟩
theorem Grw.zero : Grw 0 S4.zero := by unfold Grw S4.Bd S4.zero; decide
theorem Cnt.zero : Cnt 0 0 0 0 0 := by unfold Cnt; omega
def SpInv (c : Pz) (S : S4) (T : Int) (i : Nat) (c0 c1 c2 c3 : Int) : Prop := (S.n1 ≤ T + c.s1 ∧ (c.has = true → S.n2 ≤ T + c.s2)) ∧ Grw i S ∧ Cnt i c0 c1 c2 c3
theorem verd_ex (c : Pz) (S : S4) (t : Int) (z : Bool) : c.verd S t z = 1 ∨ c.verd S t z = 2 ∨ c.verd S t z = 3 := by
  unfold Pz.verd
  split
  · exact .inr (.inr rfl)
  · split
    · split
      · exact .inr (.inl rfl)
      · exact .inr (.inr rfl)
    · exact .inl rfl
theorem last_ex (c : Pz) (S : S4) (t : Int) (z : Bool) : c.last S t z = 1 ∨ c.last S t z = 2 ∨ c.last S t z = 3 := by
  unfold Pz.last finZ
  split
  · exact .inr (.inl rfl)
  · exact verd_ex c S t z
theorem last_drop {c : Pz} {S : S4} {t : Int} {z : Bool} : c.last S t z = 3 ↔ c.verd S t z = 3 := by
  unfold Pz.last finZ
  split
  · next h => constructor
              · intro e; omega
              · intro e; omega
  · exact Iff.rfl
theorem drop_nxt {c : Pz} {S : S4} {t : Int} {z : Bool} (h : c.last S t z = 3) : c.nxt S t z = S := by
  have hv := last_drop.1 h
  unfold Pz.nxt
  rw [hv, if_pos rfl, if_pos rfl, if_neg (by omega), if_neg (by omega)]
end Go.Proofs.Ytndmmhljphlhjaa
