/- A floating operation: the free ones may be nil checks, too. -/
import Derived.Test.YtndmmhljphlhjaaFloat
namespace Go.Proofs.Ytndmmhljphlhjaa
set_option linter.unusedVariables false
set_option linter.unusedSimpArgs false
open Go.RowKit
theorem bind_all {α : Type} {P : Program} {s : Sem α} {f : α → Sem Next} (h : ∀ a w n w', (f a).run P w = .ok n w' → ∃ u, n = .value u) {w w' : World} {n : Next} (hh : (s >>= f).run P w = .ok n w') : ∃ u, n = .value u := by
  rw [Sem.run_bind] at hh
  generalize s.run P w = r at hh
  cases r with
  | halt x w1 => simp at hh
  | ok a w1 => exact h a _ _ _ (by simpa using hh)
/-- an operation that enters no function, a nil check and a build among them. -/
def noCallB : Op → Bool
  | .build .. => true
  | .sliceToArrayPointer .. => true
  | .nilCheck .. => true
  | o => noCall o
theorem noCallB_value {o : Oper} {ρ : Operand → Value} {P : Program} {w w' : World} {n : Next} (hp : noCallB o.op = true) (h : (execOp ρ o).run P w = .ok n w') : ∃ u, n = .value u := by
  by_cases hn : noCall o.op = true
  · exact noCall_value hn h
  · unfold execOp at h
    cases ho : o.op <;> simp only [ho, noCallB, noCall, Bool.false_eq_true, not_true_eq_false] at hp hn h
    case nilCheck x =>
      split at h
      · exact absurd h (by simp [go_sem, runtimePanic])
      · exact absurd h (by simp [go_sem, runtimePanic])
      · exact absurd h (by simp [go_sem, runtimePanic])
      · split at h
        · exact absurd h (by simp [go_sem, runtimePanic])
        · refine bind_all (fun _ _ _ _ h1 => bind_all (fun _ _ _ _ h2 => ?_) h1) h
          split at h2
          · refine bind_all (fun _ _ _ _ h3 => ?_) h2
            simp [go_sem] at h3; exact ⟨_, h3.1.symm⟩
          · simp [go_sem] at h2; exact ⟨_, h2.1.symm⟩
        · simp [go_sem] at h; exact ⟨_, h.1.symm⟩
      · simp [go_sem] at h; exact ⟨_, h.1.symm⟩
    all_goals exact bind_value h
section
variable {P : Program} {ops : Array Oper} {md : Region.Mode} {S : World → Prop}
theorem yieldsIf_of_quietB {o : Oper} {a : Act} {v : Value} {C : World → Prop} (hp : noCallB o.op = true) (hw : Region.wanted o (yielded ops a.tmps) = true) (hSC : ∀ w, S w → C w) (h : ∀ w, C w → o.quietAt P a C w v) : YieldsIf P ops S o v a := by
  refine .inl ⟨hw, fun w hS => ?_⟩
  have h1 := h w (hSC w hS)
  unfold Oper.quietAt at h1
  generalize hr : (execOp a.eval o).run P w = r at *
  cases r with
  | halt x w' => exact h1.elim
  | ok n w' =>
    obtain ⟨u, rfl⟩ := noCallB_value hp hr
    obtain ⟨rfl, rfl⟩ := h1
    rfl
theorem float_quietB {rigid : Nat → Bool} {Q : Act → World → Prop} {fo : Oper} {stop : Nat} {w : World} {rest : List (Nat × Oper)} {C : World → Prop} (hSC : ∀ w, S w → C w) : ∀ (l : List (Nat × Oper)) (a : Act), (l.all fun p => !rigid p.1 && noCallB p.2.op) = true →
    wpQuiet P ops C (fun a' => wpFloat P ops rigid S Q fo stop rest a' w) (l.map (·.2)) a → wpFloat P ops rigid S Q fo stop (l ++ rest) a w
  | [], _, _, h => h
  | (k, o) :: l, a, hl, h => by
    simp only [List.all_cons, Bool.and_eq_true, Bool.not_eq_true'] at hl
    show wpFloat P ops rigid S Q fo stop ((k, o) :: (l ++ rest)) a w
    unfold wpFloat
    simp only [hl.1.1, Bool.false_eq_true, if_false]
    rw [List.map_cons] at h
    unfold wpQuiet at h
    split at h
    · rename_i hw
      obtain ⟨v, hv, hk⟩ := h
      exact ⟨v, yieldsIf_of_quietB hl.1.2 hw hSC hv, float_quietB hSC l _ hl.2 hk⟩
    · rename_i hw
      exact ⟨undef, .inr ⟨by simpa using hw, rfl⟩, float_quietB hSC l _ hl.2 h⟩
theorem float_quietB_n {rigid : Nat → Bool} {Q : Act → World → Prop} {fo : Oper} {stop : Nat} {w : World} {L : List (Nat × Oper)} {a : Act} (n : Nat) (hl : ((L.take n).all fun p => !rigid p.1 && noCallB p.2.op) = true)
    (hS : S w) (h : Nonempty (Wits S) → wpQuiet P ops (fun w' => ∃ g : Wits S, w' = g.w) (fun a' => wpFloat P ops rigid S Q fo stop (L.drop n) a' w) ((L.take n).map (·.2)) a) : wpFloat P ops rigid S Q fo stop L a w := by
  have := float_quietB (S := S) (rest := L.drop n) (fun w hS => ⟨⟨w, hS⟩, rfl⟩) (L.take n) a hl (h ⟨⟨w, hS⟩⟩)
  rwa [List.take_append_drop] at this
/-- a cut behind a piece of code whose frame hangs on two numbers. -/
def CutQ2 (fr : Nat → Nat → Act) (R : Nat → Nat → World → Prop) : Exit → Act → World → Prop := fun e a w => ∃ b c, e = .normal ∧ a = fr b c ∧ R b c w
theorem wp_cut_frame2 {P : Program} {c : Code} {Q : Exit → Act → World → Prop} {a : Act} {w : World} (R : Nat → Nat → World → Prop) (h : ∃ fr, c.wp P (CutQ2 fr R) a w ∧ ∀ b d w', R b d w' → Q .normal (fr b d) w') : c.wp P Q a w := by
  obtain ⟨fr, h1, h2⟩ := h
  refine Code.wp_mono ?_ h1
  rintro e a' w' ⟨b, d, rfl, rfl, hR⟩
  exact h2 b d w' hR
/-- .. on three. -/
def CutQ3 (fr : Nat → Nat → Nat → Act) (R : Nat → Nat → World → Prop) : Exit → Act → World → Prop := fun e a w => ∃ b c d, e = .normal ∧ a = fr b c d ∧ R b c w
theorem wp_cut_frame3 {P : Program} {c : Code} {Q : Exit → Act → World → Prop} {a : Act} {w : World} (R : Nat → Nat → World → Prop) (h : ∃ fr, c.wp P (CutQ3 fr R) a w ∧ ∀ b d f w', R b d w' → Q .normal (fr b d f) w') : c.wp P Q a w := by
  obtain ⟨fr, h1, h2⟩ := h
  refine Code.wp_mono ?_ h1
  rintro e a' w' ⟨b, d, f, rfl, rfl, hR⟩
  exact h2 b d f w' hR
end
end Go.Proofs.Ytndmmhljphlhjaa
