/- Plain law: no more of a bucket's cells lie within any ticks than its step allows. No program is in sight here. -/
import Derived.Test.YtndmmhljphlhjaaPolP
namespace Go.Proofs.Ytndmmhljphlhjaa
set_option linter.unusedVariables false
set_option linter.unusedSimpArgs false
def Win (L : List Int) (s e : Int) : Prop := ∀ (i k : Nat) (x y : Int), i ≤ k → L[i]? = some x → L[k]? = some y → ((k : Int) - (i : Int)) * s ≤ y - x + e
def Top (L : List Int) (n s : Int) : Prop := ∀ (i : Nat) (x : Int), L[i]? = some x → x + ((L.length : Int) - (i : Int)) * s ≤ n
structure Bk (L : List Int) (n : Int) (a : Bool) (s e : Int) : Prop where
  win : Win L s e
  top : Top L n s
  any : L ≠ [] → a = true
theorem Bk.nil (n s e : Int) (a : Bool) : Bk [] n a s e := ⟨fun i k x y _ h _ => by simp at h, fun i x h => by simp at h, fun h => absurd rfl h⟩
theorem Bk.take {L : List Int} {n : Int} {a : Bool} {s e t : Int} (h : Bk L n a s e) (s0 : 0 ≤ s) (e0 : 0 ≤ e) (hf : fitsB e n a t = true) (b0 : 0 ≤ t) (b1 : t ≤ 1152921504606846976) : Bk (L ++ [t]) (nextB s n t) true s e := by
  rw [nextB_of b0 b1]
  have key : ∀ (i : Nat) (x : Int), (L ++ [t])[i]? = some x → (i < L.length ∧ L[i]? = some x) ∨ (i = L.length ∧ x = t) := fun i x hx => by
    by_cases hi : i < L.length
    · rw [List.getElem?_append_left hi] at hx; exact .inl ⟨hi, hx⟩
    · have hl := (List.getElem?_eq_some_iff.1 hx).1
      simp at hl
      have : i = L.length := by omega
      subst this
      rw [List.getElem?_append_right (Nat.le_refl _)] at hx
      simp at hx
      exact .inr ⟨rfl, hx.symm⟩
  refine ⟨fun i k x y hik hx hy => ?_, fun i x hx => ?_, fun _ => rfl⟩
  · rcases key i x hx with ⟨hi, hx'⟩ | ⟨hi, rfl⟩
    · rcases key k y hy with ⟨hk, hy'⟩ | ⟨hk, rfl⟩
      · exact h.win i k x y hik hx' hy'
      · have ha := h.any (fun hn => by rw [hn] at hi; simp at hi)
        have ht := h.top i x hx'
        unfold fitsB at hf
        rw [ha, clampZ_id b0 b1] at hf
        simp at hf
        rw [hk]
        omega
    · rcases key k y hy with ⟨hk, hy⟩ | ⟨hk, rfl⟩
      · omega
      · have : (k : Int) - (i : Int) = 0 := by omega
        rw [this]; simp; exact e0
  · rw [List.length_append]
    rcases key i x hx with ⟨hi, hx⟩ | ⟨hi, rfl⟩
    · have ht := h.top i x hx
      have e1 : (((L.length + [t].length : Nat) : Int) - (i : Int)) * s = ((L.length : Int) - (i : Int)) * s + s := by
        rw [show (((L.length + [t].length : Nat) : Int) - (i : Int)) = ((L.length : Int) - (i : Int)) + 1 by simp; omega, Int.add_mul]; simp
      rw [e1]
      omega
    · have e1 : (((L.length + [x].length : Nat) : Int) - (i : Int)) * s = s := by
        rw [show (((L.length + [x].length : Nat) : Int) - (i : Int)) = 1 by simp; omega]; simp
      rw [e1]
      omega
theorem win_quo {L : List Int} {s e : Int} (h : Win L s e) (s1 : 1 ≤ s) {i k : Nat} {x y : Int} (hik : i ≤ k) (hx : L[i]? = some x) (hy : L[k]? = some y) : (k : Int) - (i : Int) ≤ Int.tdiv (y - x + e) s := by
  have hw := h i k x y hik hx hy
  have h0 : 0 ≤ ((k : Int) - (i : Int)) * s := Int.mul_nonneg (by omega) (by omega)
  rw [Int.tdiv_eq_ediv_of_nonneg (by omega)]
  exact (Int.le_ediv_iff_mul_le (by omega)).2 hw
/-- the windows behind so many cells. -/
def Wnv (c : Pz) (k : Int) (S : S4) (us zs : List Int) : Prop :=
  Bk us S.n1 S.a1 c.s1 c.e1 ∧ (k = 2 → Bk us S.n2 S.a2 c.s2 c.e2) ∧ (k = 3 ∨ k = 4 → Bk zs S.n2 S.a2 c.s2 c.e2)
theorem Wnv.zero (c : Pz) (k : Int) : Wnv c k S4.zero [] [] := ⟨Bk.nil _ _ _ _, fun _ => Bk.nil _ _ _ _, fun _ => Bk.nil _ _ _ _⟩
structure WK (c : Pz) (k : Int) : Prop where
  two : k = 2 → c.has = true ∧ c.zero = false ∧ c.tag = false ∧ c.al = false
  mid : k = 3 ∨ k = 4 → c.has = true ∧ c.zero = true ∧ c.al = false
theorem wk_of (k p e wh b : Int) : WK (pzOf k p e wh b) k := by
  constructor
  · intro h; subst h; exact ⟨rfl, rfl, rfl, rfl⟩
  · rintro (h | h) <;> subst h <;> exact ⟨rfl, rfl, rfl⟩
theorem verd_f1 {c : Pz} {S : S4} {t : Int} {z : Bool} (h : ¬ c.verd S t z = 3) : c.f1 S t = true := by
  cases e : c.f1 S t
  · exact absurd (by unfold Pz.verd; rw [if_pos e]) h
  · rfl
theorem verd_f2 {c : Pz} {S : S4} {t : Int} {z : Bool} (h : c.verd S t z = 1) (ha : c.as2 z = true) : c.f2 S t = true := by
  cases e : c.f2 S t
  · exfalso
    unfold Pz.verd at h
    rw [ha, e] at h
    cases e1 : c.f1 S t
    · rw [e1] at h; simp at h
    · rw [e1] at h; simp at h
      split at h <;> omega
  · rfl
theorem nxt_n1 {c : Pz} {S : S4} {t : Int} {z : Bool} (h : ¬ c.verd S t z = 3) : (c.nxt S t z).n1 = nextB c.s1 S.n1 t ∧ (c.nxt S t z).a1 = true := by
  unfold Pz.nxt
  exact ⟨if_neg h, if_neg h⟩
theorem nxt_n2 {c : Pz} {S : S4} {t : Int} {z : Bool} (h : c.verd S t z = 1) (ha : c.as2 z = true) : (c.nxt S t z).n2 = nextB c.s2 S.n2 t ∧ (c.nxt S t z).a2 = true := by
  unfold Pz.nxt
  exact ⟨if_pos ⟨h, ha⟩, if_pos ⟨h, ha⟩⟩
theorem nxt_k2 {c : Pz} {S : S4} {t : Int} {z : Bool} (h : ¬ (c.verd S t z = 1 ∧ c.as2 z = true)) : (c.nxt S t z).n2 = S.n2 ∧ (c.nxt S t z).a2 = S.a2 := by
  unfold Pz.nxt
  exact ⟨if_neg h, if_neg h⟩
/-- a step: dropped; not dropped; passed with loss priority 0. -/
theorem wnv_step {c : Pz} {k : Int} (ok : c.Ok) (hw : WK c k) {S : S4} {us zs : List Int} (h : Wnv c k S us zs) {t : Int} (b0 : 0 ≤ t) (b1 : t ≤ 1152921504606846976) (z : Bool) :
    Wnv c k (c.nxt S t z) (if c.last S t z = 3 then us else us ++ [t]) (if c.last S t z = 1 ∧ z = true then zs ++ [t] else zs) := by
  obtain ⟨h1, h2, h3⟩ := h
  by_cases hd : c.last S t z = 3
  · rw [drop_nxt hd, if_pos hd, if_neg (by omega)]
    exact ⟨h1, h2, h3⟩
  · have hv : ¬ c.verd S t z = 3 := fun e => hd (last_drop.2 e)
    rw [if_neg hd]
    have f1 := verd_f1 hv
    have e1 := nxt_n1 hv
    refine ⟨by rw [e1.1, e1.2]; exact h1.take (by have := ok.s1; omega) ok.e1.1 f1 b0 b1, fun hk => ?_, fun hk => ?_⟩
    · obtain ⟨c1, c2, c3, c4⟩ := hw.two hk
      have ha : c.as2 z = true := by unfold Pz.as2; rw [c1, c2]; rfl
      have hv1 : c.verd S t z = 1 := by
        rcases verd_ex c S t z with hh | hh | hh
        · exact hh
        · exfalso
          unfold Pz.verd at hh
          rw [f1, c3] at hh
          simp at hh
          split at hh <;> omega
        · exact absurd hh hv
      have f2 := verd_f2 hv1 ha
      have e2 := nxt_n2 hv1 ha
      rw [e2.1, e2.2]
      exact (h2 hk).take (by have := ok.s2 c1; omega) (ok.e2 c1).1 f2 b0 b1
    · obtain ⟨c1, c2, c4⟩ := hw.mid hk
      have hl : c.last S t z = c.verd S t z := by unfold Pz.last finZ; rw [if_neg (by rw [c4]; simp)]
      have ha : c.as2 z = z := by unfold Pz.as2; rw [c1, c2]; simp
      rw [hl]
      by_cases hp : c.verd S t z = 1 ∧ z = true
      · have ha' : c.as2 z = true := ha.trans hp.2
        have f2 := verd_f2 hp.1 ha'
        have e2 := nxt_n2 hp.1 ha'
        rw [e2.1, e2.2, if_pos hp]
        exact (h3 hk).take (by have := ok.s2 c1; omega) (ok.e2 c1).1 f2 b0 b1
      · have e2 := nxt_k2 (c := c) (S := S) (t := t) (z := z) (by rw [ha]; exact hp)
        rw [e2.1, e2.2, if_neg hp]
        exact h3 hk
end Go.Proofs.Ytndmmhljphlhjaa
