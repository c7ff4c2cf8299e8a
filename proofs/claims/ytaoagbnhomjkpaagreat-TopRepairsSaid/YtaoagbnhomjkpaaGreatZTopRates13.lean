import Derived.OwnWalk
import Derived.Test.YtaoagbnhomjkpaaGreatZTopRates00
import Derived.Test.YtaoagbnhomjkpaaGreatZTopRates03
import Derived.Test.YtaoagbnhomjkpaaGreatZTopRates07
import Derived.Test.YtaoagbnhomjkpaaGreatZTopRates09
import Derived.Test.YtaoagbnhomjkpaaGreatZTopRates12
/- An order of ours, builds and nil checks among the free operations. -/
namespace Go.Proofs.YtaoagbnhomjkpaaGreat
set_option linter.unusedVariables false
set_option linter.unusedSimpArgs false
open Go.RowKit
section
variable {P : Program} {ops : Array Oper} {S : World → Prop}
theorem lead_quietB {rigid : Nat → Bool} {Q : Act → World → Prop} {w : World} {rest : List (Nat × Oper)} {C : World → Prop} (hSC : ∀ w, S w → C w) : ∀ (l : List (Nat × Oper)) (a : Act), (l.all fun p => !rigid p.1 && noCallB p.2.op) = true →
    wpQuiet P ops C (fun a' => wpLead P ops rigid S Q rest a' w) (l.map (·.2)) a → wpLead P ops rigid S Q (l ++ rest) a w
  | [], _, _, h => h
  | (k, o) :: l, a, hl, h => by
    simp only [List.all_cons, Bool.and_eq_true, Bool.not_eq_true'] at hl
    show wpLead P ops rigid S Q ((k, o) :: (l ++ rest)) a w
    unfold wpLead
    simp only [hl.1.1, Bool.false_eq_true, if_false]
    rw [List.map_cons] at h
    unfold wpQuiet at h
    split at h
    · rename_i hw
      obtain ⟨v, hv, hk⟩ := h
      exact ⟨v, yieldsIf_of_quietB hl.1.2 hw hSC hv, lead_quietB hSC l _ hl.2 hk⟩
    · rename_i hw
      exact ⟨undef, .inr ⟨by simpa using hw, rfl⟩, lead_quietB hSC l _ hl.2 h⟩
theorem lead_quietB_n {rigid : Nat → Bool} {Q : Act → World → Prop} {w : World} {L : List (Nat × Oper)} {a : Act} (n : Nat) (hl : ((L.take n).all fun p => !rigid p.1 && noCallB p.2.op) = true)
    (hS : S w) (h : Nonempty (Wits S) → wpQuiet P ops (fun w' => ∃ g : Wits S, w' = g.w) (fun a' => wpLead P ops rigid S Q (L.drop n) a' w) ((L.take n).map (·.2)) a) : wpLead P ops rigid S Q L a w := by
  have := lead_quietB (S := S) (rest := L.drop n) (fun w hS => ⟨⟨w, hS⟩, rfl⟩) (L.take n) a hl (h ⟨⟨w, hS⟩⟩)
  rwa [List.take_append_drop] at this
end
/-- 1 cells' values. -/
def Cs1 (b0 o0 : Nat) (v0 : Value) (w : World) : Prop := w.cell? ⟨b0, o0, none⟩ = some v0 ∧ True
theorem Cs1.below {b0 o0 : Nat} {v0 : Value} {w w' : World} (h : Cs1 b0 o0 v0 w) (hb : Below w.heap.size w w') : Cs1 b0 o0 v0 w' := ⟨cell_keep hb h.1, trivial⟩
/-- 2 cells' values. -/
def Cs2 (b0 o0 : Nat) (v0 : Value) (b1 o1 : Nat) (v1 : Value) (w : World) : Prop := w.cell? ⟨b0, o0, none⟩ = some v0 ∧ w.cell? ⟨b1, o1, none⟩ = some v1 ∧ True
theorem Cs2.below {b0 o0 : Nat} {v0 : Value} {b1 o1 : Nat} {v1 : Value} {w w' : World} (h : Cs2 b0 o0 v0 b1 o1 v1 w) (hb : Below w.heap.size w w') : Cs2 b0 o0 v0 b1 o1 v1 w' := ⟨cell_keep hb h.1, cell_keep hb h.2.1, trivial⟩
/-- 3 cells' values. -/
def Cs3 (b0 o0 : Nat) (v0 : Value) (b1 o1 : Nat) (v1 : Value) (b2 o2 : Nat) (v2 : Value) (w : World) : Prop := w.cell? ⟨b0, o0, none⟩ = some v0 ∧ w.cell? ⟨b1, o1, none⟩ = some v1 ∧ w.cell? ⟨b2, o2, none⟩ = some v2 ∧ True
theorem Cs3.below {b0 o0 : Nat} {v0 : Value} {b1 o1 : Nat} {v1 : Value} {b2 o2 : Nat} {v2 : Value} {w w' : World} (h : Cs3 b0 o0 v0 b1 o1 v1 b2 o2 v2 w) (hb : Below w.heap.size w w') : Cs3 b0 o0 v0 b1 o1 v1 b2 o2 v2 w' := ⟨cell_keep hb h.1, cell_keep hb h.2.1, cell_keep hb h.2.2.1, trivial⟩
/-- 4 cells' values. -/
def Cs4 (b0 o0 : Nat) (v0 : Value) (b1 o1 : Nat) (v1 : Value) (b2 o2 : Nat) (v2 : Value) (b3 o3 : Nat) (v3 : Value) (w : World) : Prop := w.cell? ⟨b0, o0, none⟩ = some v0 ∧ w.cell? ⟨b1, o1, none⟩ = some v1 ∧ w.cell? ⟨b2, o2, none⟩ = some v2 ∧ w.cell? ⟨b3, o3, none⟩ = some v3 ∧ True
theorem Cs4.below {b0 o0 : Nat} {v0 : Value} {b1 o1 : Nat} {v1 : Value} {b2 o2 : Nat} {v2 : Value} {b3 o3 : Nat} {v3 : Value} {w w' : World} (h : Cs4 b0 o0 v0 b1 o1 v1 b2 o2 v2 b3 o3 v3 w) (hb : Below w.heap.size w w') : Cs4 b0 o0 v0 b1 o1 v1 b2 o2 v2 b3 o3 v3 w' := ⟨cell_keep hb h.1, cell_keep hb h.2.1, cell_keep hb h.2.2.1, cell_keep hb h.2.2.2.1, trivial⟩
/-- 5 cells' values. -/
def Cs5 (b0 o0 : Nat) (v0 : Value) (b1 o1 : Nat) (v1 : Value) (b2 o2 : Nat) (v2 : Value) (b3 o3 : Nat) (v3 : Value) (b4 o4 : Nat) (v4 : Value) (w : World) : Prop := w.cell? ⟨b0, o0, none⟩ = some v0 ∧ w.cell? ⟨b1, o1, none⟩ = some v1 ∧ w.cell? ⟨b2, o2, none⟩ = some v2 ∧ w.cell? ⟨b3, o3, none⟩ = some v3 ∧ w.cell? ⟨b4, o4, none⟩ = some v4 ∧ True
theorem Cs5.below {b0 o0 : Nat} {v0 : Value} {b1 o1 : Nat} {v1 : Value} {b2 o2 : Nat} {v2 : Value} {b3 o3 : Nat} {v3 : Value} {b4 o4 : Nat} {v4 : Value} {w w' : World} (h : Cs5 b0 o0 v0 b1 o1 v1 b2 o2 v2 b3 o3 v3 b4 o4 v4 w) (hb : Below w.heap.size w w') : Cs5 b0 o0 v0 b1 o1 v1 b2 o2 v2 b3 o3 v3 b4 o4 v4 w' := ⟨cell_keep hb h.1, cell_keep hb h.2.1, cell_keep hb h.2.2.1, cell_keep hb h.2.2.2.1, cell_keep hb h.2.2.2.2.1, trivial⟩
/-- 6 cells' values. -/
def Cs6 (b0 o0 : Nat) (v0 : Value) (b1 o1 : Nat) (v1 : Value) (b2 o2 : Nat) (v2 : Value) (b3 o3 : Nat) (v3 : Value) (b4 o4 : Nat) (v4 : Value) (b5 o5 : Nat) (v5 : Value) (w : World) : Prop := w.cell? ⟨b0, o0, none⟩ = some v0 ∧ w.cell? ⟨b1, o1, none⟩ = some v1 ∧ w.cell? ⟨b2, o2, none⟩ = some v2 ∧ w.cell? ⟨b3, o3, none⟩ = some v3 ∧ w.cell? ⟨b4, o4, none⟩ = some v4 ∧ w.cell? ⟨b5, o5, none⟩ = some v5 ∧ True
theorem Cs6.below {b0 o0 : Nat} {v0 : Value} {b1 o1 : Nat} {v1 : Value} {b2 o2 : Nat} {v2 : Value} {b3 o3 : Nat} {v3 : Value} {b4 o4 : Nat} {v4 : Value} {b5 o5 : Nat} {v5 : Value} {w w' : World} (h : Cs6 b0 o0 v0 b1 o1 v1 b2 o2 v2 b3 o3 v3 b4 o4 v4 b5 o5 v5 w) (hb : Below w.heap.size w w') : Cs6 b0 o0 v0 b1 o1 v1 b2 o2 v2 b3 o3 v3 b4 o4 v4 b5 o5 v5 w' := ⟨cell_keep hb h.1, cell_keep hb h.2.1, cell_keep hb h.2.2.1, cell_keep hb h.2.2.2.1, cell_keep hb h.2.2.2.2.1, cell_keep hb h.2.2.2.2.2.1, trivial⟩
/-- 7 cells' values. -/
def Cs7 (b0 o0 : Nat) (v0 : Value) (b1 o1 : Nat) (v1 : Value) (b2 o2 : Nat) (v2 : Value) (b3 o3 : Nat) (v3 : Value) (b4 o4 : Nat) (v4 : Value) (b5 o5 : Nat) (v5 : Value) (b6 o6 : Nat) (v6 : Value) (w : World) : Prop := w.cell? ⟨b0, o0, none⟩ = some v0 ∧ w.cell? ⟨b1, o1, none⟩ = some v1 ∧ w.cell? ⟨b2, o2, none⟩ = some v2 ∧ w.cell? ⟨b3, o3, none⟩ = some v3 ∧ w.cell? ⟨b4, o4, none⟩ = some v4 ∧ w.cell? ⟨b5, o5, none⟩ = some v5 ∧ w.cell? ⟨b6, o6, none⟩ = some v6 ∧ True
theorem Cs7.below {b0 o0 : Nat} {v0 : Value} {b1 o1 : Nat} {v1 : Value} {b2 o2 : Nat} {v2 : Value} {b3 o3 : Nat} {v3 : Value} {b4 o4 : Nat} {v4 : Value} {b5 o5 : Nat} {v5 : Value} {b6 o6 : Nat} {v6 : Value} {w w' : World} (h : Cs7 b0 o0 v0 b1 o1 v1 b2 o2 v2 b3 o3 v3 b4 o4 v4 b5 o5 v5 b6 o6 v6 w) (hb : Below w.heap.size w w') : Cs7 b0 o0 v0 b1 o1 v1 b2 o2 v2 b3 o3 v3 b4 o4 v4 b5 o5 v5 b6 o6 v6 w' := ⟨cell_keep hb h.1, cell_keep hb h.2.1, cell_keep hb h.2.2.1, cell_keep hb h.2.2.2.1, cell_keep hb h.2.2.2.2.1, cell_keep hb h.2.2.2.2.2.1, cell_keep hb h.2.2.2.2.2.2.1, trivial⟩
/-- 8 cells' values. -/
def Cs8 (b0 o0 : Nat) (v0 : Value) (b1 o1 : Nat) (v1 : Value) (b2 o2 : Nat) (v2 : Value) (b3 o3 : Nat) (v3 : Value) (b4 o4 : Nat) (v4 : Value) (b5 o5 : Nat) (v5 : Value) (b6 o6 : Nat) (v6 : Value) (b7 o7 : Nat) (v7 : Value) (w : World) : Prop := w.cell? ⟨b0, o0, none⟩ = some v0 ∧ w.cell? ⟨b1, o1, none⟩ = some v1 ∧ w.cell? ⟨b2, o2, none⟩ = some v2 ∧ w.cell? ⟨b3, o3, none⟩ = some v3 ∧ w.cell? ⟨b4, o4, none⟩ = some v4 ∧ w.cell? ⟨b5, o5, none⟩ = some v5 ∧ w.cell? ⟨b6, o6, none⟩ = some v6 ∧ w.cell? ⟨b7, o7, none⟩ = some v7 ∧ True
theorem Cs8.below {b0 o0 : Nat} {v0 : Value} {b1 o1 : Nat} {v1 : Value} {b2 o2 : Nat} {v2 : Value} {b3 o3 : Nat} {v3 : Value} {b4 o4 : Nat} {v4 : Value} {b5 o5 : Nat} {v5 : Value} {b6 o6 : Nat} {v6 : Value} {b7 o7 : Nat} {v7 : Value} {w w' : World} (h : Cs8 b0 o0 v0 b1 o1 v1 b2 o2 v2 b3 o3 v3 b4 o4 v4 b5 o5 v5 b6 o6 v6 b7 o7 v7 w) (hb : Below w.heap.size w w') : Cs8 b0 o0 v0 b1 o1 v1 b2 o2 v2 b3 o3 v3 b4 o4 v4 b5 o5 v5 b6 o6 v6 b7 o7 v7 w' := ⟨cell_keep hb h.1, cell_keep hb h.2.1, cell_keep hb h.2.2.1, cell_keep hb h.2.2.2.1, cell_keep hb h.2.2.2.2.1, cell_keep hb h.2.2.2.2.2.1, cell_keep hb h.2.2.2.2.2.2.1, cell_keep hb h.2.2.2.2.2.2.2.1, trivial⟩
/-- 9 cells' values. -/
def Cs9 (b0 o0 : Nat) (v0 : Value) (b1 o1 : Nat) (v1 : Value) (b2 o2 : Nat) (v2 : Value) (b3 o3 : Nat) (v3 : Value) (b4 o4 : Nat) (v4 : Value) (b5 o5 : Nat) (v5 : Value) (b6 o6 : Nat) (v6 : Value) (b7 o7 : Nat) (v7 : Value) (b8 o8 : Nat) (v8 : Value) (w : World) : Prop := w.cell? ⟨b0, o0, none⟩ = some v0 ∧ w.cell? ⟨b1, o1, none⟩ = some v1 ∧ w.cell? ⟨b2, o2, none⟩ = some v2 ∧ w.cell? ⟨b3, o3, none⟩ = some v3 ∧ w.cell? ⟨b4, o4, none⟩ = some v4 ∧ w.cell? ⟨b5, o5, none⟩ = some v5 ∧ w.cell? ⟨b6, o6, none⟩ = some v6 ∧ w.cell? ⟨b7, o7, none⟩ = some v7 ∧ w.cell? ⟨b8, o8, none⟩ = some v8 ∧ True
theorem Cs9.below {b0 o0 : Nat} {v0 : Value} {b1 o1 : Nat} {v1 : Value} {b2 o2 : Nat} {v2 : Value} {b3 o3 : Nat} {v3 : Value} {b4 o4 : Nat} {v4 : Value} {b5 o5 : Nat} {v5 : Value} {b6 o6 : Nat} {v6 : Value} {b7 o7 : Nat} {v7 : Value} {b8 o8 : Nat} {v8 : Value} {w w' : World} (h : Cs9 b0 o0 v0 b1 o1 v1 b2 o2 v2 b3 o3 v3 b4 o4 v4 b5 o5 v5 b6 o6 v6 b7 o7 v7 b8 o8 v8 w) (hb : Below w.heap.size w w') : Cs9 b0 o0 v0 b1 o1 v1 b2 o2 v2 b3 o3 v3 b4 o4 v4 b5 o5 v5 b6 o6 v6 b7 o7 v7 b8 o8 v8 w' := ⟨cell_keep hb h.1, cell_keep hb h.2.1, cell_keep hb h.2.2.1, cell_keep hb h.2.2.2.1, cell_keep hb h.2.2.2.2.1, cell_keep hb h.2.2.2.2.2.1, cell_keep hb h.2.2.2.2.2.2.1, cell_keep hb h.2.2.2.2.2.2.2.1, cell_keep hb h.2.2.2.2.2.2.2.2.1, trivial⟩
/-- 10 cells' values. -/
def Cs10 (b0 o0 : Nat) (v0 : Value) (b1 o1 : Nat) (v1 : Value) (b2 o2 : Nat) (v2 : Value) (b3 o3 : Nat) (v3 : Value) (b4 o4 : Nat) (v4 : Value) (b5 o5 : Nat) (v5 : Value) (b6 o6 : Nat) (v6 : Value) (b7 o7 : Nat) (v7 : Value) (b8 o8 : Nat) (v8 : Value) (b9 o9 : Nat) (v9 : Value) (w : World) : Prop := w.cell? ⟨b0, o0, none⟩ = some v0 ∧ w.cell? ⟨b1, o1, none⟩ = some v1 ∧ w.cell? ⟨b2, o2, none⟩ = some v2 ∧ w.cell? ⟨b3, o3, none⟩ = some v3 ∧ w.cell? ⟨b4, o4, none⟩ = some v4 ∧ w.cell? ⟨b5, o5, none⟩ = some v5 ∧ w.cell? ⟨b6, o6, none⟩ = some v6 ∧ w.cell? ⟨b7, o7, none⟩ = some v7 ∧ w.cell? ⟨b8, o8, none⟩ = some v8 ∧ w.cell? ⟨b9, o9, none⟩ = some v9 ∧ True
theorem Cs10.below {b0 o0 : Nat} {v0 : Value} {b1 o1 : Nat} {v1 : Value} {b2 o2 : Nat} {v2 : Value} {b3 o3 : Nat} {v3 : Value} {b4 o4 : Nat} {v4 : Value} {b5 o5 : Nat} {v5 : Value} {b6 o6 : Nat} {v6 : Value} {b7 o7 : Nat} {v7 : Value} {b8 o8 : Nat} {v8 : Value} {b9 o9 : Nat} {v9 : Value} {w w' : World} (h : Cs10 b0 o0 v0 b1 o1 v1 b2 o2 v2 b3 o3 v3 b4 o4 v4 b5 o5 v5 b6 o6 v6 b7 o7 v7 b8 o8 v8 b9 o9 v9 w) (hb : Below w.heap.size w w') : Cs10 b0 o0 v0 b1 o1 v1 b2 o2 v2 b3 o3 v3 b4 o4 v4 b5 o5 v5 b6 o6 v6 b7 o7 v7 b8 o8 v8 b9 o9 v9 w' := ⟨cell_keep hb h.1, cell_keep hb h.2.1, cell_keep hb h.2.2.1, cell_keep hb h.2.2.2.1, cell_keep hb h.2.2.2.2.1, cell_keep hb h.2.2.2.2.2.1, cell_keep hb h.2.2.2.2.2.2.1, cell_keep hb h.2.2.2.2.2.2.2.1, cell_keep hb h.2.2.2.2.2.2.2.2.1, cell_keep hb h.2.2.2.2.2.2.2.2.2.1, trivial⟩
end Go.Proofs.YtaoagbnhomjkpaaGreat

/- An order of ours, the last operation of which may break what was held. -/
namespace Go.Proofs.YtaoagbnhomjkpaaGreat
set_option linter.unusedVariables false
set_option linter.unusedSimpArgs false
open Go.RowKit
section
variable {P : Program} {ops : Array Oper} {Q : Exit → Act → World → Prop} {md : Region.Mode} {S : World → Prop}
def wpAnyT (P : Program) (md : Region.Mode) (ops : Array Oper) (Q : Exit → Act → World → Prop) (S : World → Prop) (t : Nat) : Nat → Array Bool → Act → World → Prop
  | 0, listed, a, w => Region.ready md ops listed = [] ∧ Q .normal a w
  | fuel + 1, listed, a, w =>
    (Region.ready md ops listed = [] → Q .normal a w) ∧
    ∀ i ∈ Region.ready md ops listed, wpOp P ops Q i (fun a' w' => (i ≠ t → S w') ∧ wpAnyT P md ops Q S t fuel (listed.setIfInBounds i true) a' w') a w
theorem wpAny_of_T {t : Nat} : ∀ (fuel : Nat) (listed : Array Bool) (a : Act) (w : World), wpAnyT P md ops Q S t fuel listed a w → wpAny P md ops Q fuel listed a w
  | 0, _, _, _, h => h
  | fuel + 1, _, _, _, h => ⟨h.1, fun i hi => wpOp_mono (fun a' w' h' => wpAny_of_T fuel _ a' w' h'.2) (h.2 i hi)⟩
theorem wpAnyT_first {t i : Nat} {oi : Oper} {v : Value} (hi : ops[i]? = some oi) (hsel : ∀ (j : Nat) (o : Oper) cs b, ops[j]? = some o → o.op ≠ .select cs b)
    (hQ : ∀ c a w, Q (.panic c) (a.put oi.dst v) w → Q (.panic c) a w) (hit : i ≠ t) (ht : ∃ ot, ops[t]? = some ot ∧ ∃ e ∈ ot.after, Region.binds md e = true ∧ e.on = i) :
    ∀ (fuel : Nat) (listed : Array Bool) (a : Act) (w : World),
      (∀ j oj, ops[j]? = some oj → j ≠ i → listed.getD j true = false → (∀ e ∈ oj.after, Region.binds md e = true → e.on ≠ i) → oi.apart ops oj = true) →
      i ∈ Region.ready md ops listed → YieldsIf P ops S oi v a → S w →
      wpAnyT P md ops Q S t fuel (listed.setIfInBounds i true) (a.put oi.dst v) w → wpAnyT P md ops Q S t (fuel + 1) listed a w := by
  intro fuel
  induction fuel with
  | zero =>
    intro listed a w _ hr hy hS H
    refine ⟨fun h => (by rw [h] at hr; cases hr), fun j hj => ?_⟩
    by_cases hji : j = i
    · subst hji; exact hy.wpOp hi hS ⟨fun _ => hS, H⟩
    · have := ready_mono hj hji
      rw [H.1] at this
      cases this
  | succ fuel ih =>
    intro listed a w hfree hr hy hS H
    refine ⟨fun h => (by rw [h] at hr; cases hr), fun j hj => ?_⟩
    by_cases hji : j = i
    · subst hji; exact hy.wpOp hi hS ⟨fun _ => hS, H⟩
    · have h1 := H.2 j (ready_mono hj hji)
      obtain ⟨hjun, oj, hoj, hall⟩ := mem_ready.1 hj
      have hnot : ∀ e ∈ oj.after, Region.binds md e = true → e.on ≠ i := fun e he hb heq => by
        have h1 := hall e he hb
        have h0 := (mem_ready.1 hr).1
        rw [heq] at h1
        rcases Nat.lt_or_ge i listed.size with h' | h'
        · simp [h'] at h0 h1; rw [h0] at h1; cases h1
        · simp [Array.getElem?_eq_none h'] at h1
      have hjt : j ≠ t := fun e => by
        subst e
        obtain ⟨ot, hot, e, he, hb, heq⟩ := ht
        rw [hoj] at hot
        cases hot
        exact hnot e he hb heq
      have h2 := wpOp_putIf hoj (hfree j oj hoj hji hjun hnot) (fun cs b => hsel i oi cs b hi) (fun cs b => hsel j oj cs b hoj) hQ hy h1
      have hfree' : ∀ k ok, ops[k]? = some ok → k ≠ i → (listed.setIfInBounds j true).getD k true = false →
          (∀ e ∈ ok.after, Region.binds md e = true → e.on ≠ i) → oi.apart ops ok = true := fun k ok hk hki hun hno => by
        refine hfree k ok hk hki ?_ hno
        by_cases hjk : j = k
        · subst hjk; exact hjun
        · rw [getD_set_ne true hjk] at hun; exact hun
      refine wpOp_mono (fun a' w' h3 => ⟨h3.2.1, ih (listed.setIfInBounds j true) a' w' hfree' (ready_mono hr (Ne.symm hji)) h3.1 (h3.2.1 hjt) ?_⟩) h2
      rw [Array.setIfInBounds_comm _ _ hji]
      exact h3.2.2
/-- the order of ours, but the last one, number t. -/
def leadTB (md : Region.Mode) (ops : Array Oper) (rigid : Nat → Bool) (t : Nat) : List Nat → Array Bool → Bool
  | [], listed => decide (Region.ready md ops listed = [t]) && decide (Region.ready md ops (listed.setIfInBounds t true) = [])
  | k :: rest, listed =>
    decide (k ≠ t) && (if rigid k then decide (Region.ready md ops listed = [k])
      else (Region.ready md ops listed).contains k && Region.free md ops listed k && (match ops[t]? with | some ot => ot.after.any (fun e => Region.binds md e && e.on == k) | none => false)) && leadTB md ops rigid t rest (listed.setIfInBounds k true)
theorem anyT_of_lead {rigid : Nat → Bool} {t : Nat} {ot : Oper} {Q : Exit → Act → World → Prop} (hs : Region.noSelect ops = true) (hot : ops[t]? = some ot) : ∀ (l : List (Nat × Oper)) (listed : Array Bool) (a : Act) (w : World), (∀ p ∈ l, ops[p.1]? = some p.2) →
    leadTB md ops rigid t (l.map (·.1)) listed = true → S w → wpLead P ops rigid S (fun a w => wpList P ops (onlyN fun _ a' w' => Q .normal a' w') [ot] a w) l a w → wpAnyT P md ops (onlyN Q) S t (l.length + 1) listed a w
  | [], listed, a, w, _, hB, hS, h => by
    simp only [List.map_nil, leadTB, Bool.and_eq_true, decide_eq_true_eq] at hB
    obtain ⟨hr, hr2⟩ := hB
    refine ⟨fun h0 => (by rw [hr] at h0; cases h0), fun j hj => ?_⟩
    rw [hr] at hj
    obtain rfl : j = t := by simpa using hj
    have h : wpList P ops (onlyN fun _ a' w' => Q .normal a' w') [ot] a w := h
    unfold wpList at h
    unfold wpOp
    simp only [hot]
    split
    · rename_i hw
      simp only [hw, if_true] at h
      rcases h with h | ⟨_, h⟩
      · refine .inl ?_
        unfold Oper.wp at *
        generalize (execOp a.eval ot).run P w = r at *
        cases r with
        | halt x w' =>
          cases x <;> simp only [Oper.upon] at h ⊢
          case panic v => cases h.1
        | ok n w' =>
          cases n <;> simp only [Oper.upon] at h ⊢
          case value v => exact ⟨fun e => absurd rfl e, hr2, rfl, h.2⟩
          case skip => exact ⟨fun e => absurd rfl e, hr2, rfl, h.2⟩
          case defer d => exact ⟨fun e => absurd rfl e, hr2, rfl, h.2⟩
          case enter f args =>
            refine Calls.mono h fun e w'' he => ?_
            cases e with
            | returned v => exact ⟨fun e => absurd rfl e, hr2, rfl, he.2⟩
            | panicked c => cases he.1
            | outgrown => exact (letsOut_onlyN he).elim
          case row row args => exact Rows.mono h fun u w'' he => ⟨fun e => absurd rfl e, hr2, rfl, he.2⟩
      · exact (letsOut_onlyN h).elim
    · rename_i hw
      simp only [hw] at h
      exact ⟨fun e => absurd rfl e, hr2, rfl, h.2⟩
  | (k, o) :: l, listed, a, w, hl, hB, hS, h => by
    have h0 : ops[k]? = some o := hl (k, o) (by simp)
    simp only [List.map_cons, leadTB, Bool.and_eq_true] at hB
    obtain ⟨⟨hkt, hk⟩, hB'⟩ := hB
    have hkt : k ≠ t := of_decide_eq_true hkt
    have hl' : ∀ p ∈ l, ops[p.1]? = some p.2 := fun p hp => hl p (by simp [hp])
    have ih := fun a' w' => anyT_of_lead (Q := Q) hs hot l (listed.setIfInBounds k true) a' w' hl' hB'
    unfold wpLead at h
    by_cases hlk : rigid k = true
    · simp only [hlk, if_true, decide_eq_true_eq] at hk h
      refine ⟨fun h0 => (by rw [hk] at h0; cases h0), fun j hj => ?_⟩
      rw [hk] at hj
      obtain rfl : j = k := by simpa using hj
      unfold wpOp
      simp only [h0]
      split
      · rename_i hw
        simp only [hw, if_true] at h
        refine .inl ?_
        unfold Oper.wp at *
        generalize (execOp a.eval o).run P w = r at *
        cases r with
        | halt x w' =>
          cases x <;> simp only [Oper.upon] at h ⊢
          case panic v => cases h.1
        | ok n w' =>
          cases n <;> simp only [Oper.upon] at h ⊢
          case value v => exact ⟨fun _ => h.1, ih _ _ h.1 h.2⟩
          case skip => exact ⟨fun _ => h.1, ih _ _ h.1 h.2⟩
          case defer d => exact ⟨fun _ => h.1, ih _ _ h.1 h.2⟩
          case enter f args =>
            refine Calls.mono h fun e w'' he => ?_
            cases e with
            | returned v => exact ⟨fun _ => he.1, ih _ _ he.1 he.2⟩
            | panicked c => cases he.1
            | outgrown => exact (letsOut_onlyN he).elim
          case row row args => exact Rows.mono h fun u w'' he => ⟨fun _ => he.1, ih _ _ he.1 he.2⟩
      · rename_i hw
        simp only [hw] at h
        exact ⟨fun _ => hS, ih _ _ hS h⟩
    · have hlk' : rigid k = false := by simpa using hlk
      simp only [hlk', Bool.false_eq_true, if_false, Bool.and_eq_true] at hk h
      obtain ⟨⟨hr, hf⟩, hw⟩ := hk
      obtain ⟨v, hy, hK⟩ := h
      have hw2 : ∃ ot, ops[t]? = some ot ∧ ∃ e ∈ ot.after, Region.binds md e = true ∧ e.on = k := by
        rw [hot] at hw
        dsimp only at hw
        refine ⟨ot, hot, ?_⟩
        rw [← Array.any_toList, List.any_eq_true] at hw
        obtain ⟨e, he, h2⟩ := hw
        simp only [Bool.and_eq_true, beq_iff_eq] at h2
        exact ⟨e, Array.mem_toList_iff.1 he, h2.1, h2.2⟩
      exact wpAnyT_first h0 (Region.noSelect_spec hs) (fun c a w hq => by cases hq.1) hkt hw2 (l.length + 1) listed a w (Region.free_spec h0 hf) (by simpa using hr) hy hS (ih _ _ hS hK)
/-- the region. -/
theorem wp_region_leadT {id : Nat} {Q : Exit → Act → World → Prop} {a : Act} {w : World} {l : List Oper} (S : World → Prop) (rigid ord : List Nat) (t : Nat) (ot : Oper) (L : List (Nat × Oper)) (hm : P.follows .mixedOrders = true)
    (hs : Region.noSelect l.toArray = true) (hB : leadTB .any l.toArray (fun k => rigid.contains k) t ord (Array.replicate l.length false) = true) (hot : l[t]? = some ot) (hL : (ord.filterMap fun k => (l[k]?).map fun o => (k, o)) = L) (hn : L.map (·.1) = ord) (hlen : L.length + 1 = l.length) (hS : S w.drew)
    (h : wpLead P l.toArray (fun k => rigid.contains k) S (fun a w => wpList P l.toArray (onlyN fun _ a' w' => Q .normal a' w') [ot] a w) L a w.drew) : (Code.region id l.toArray true).wp P Q a w := by
  have hmem : ∀ p ∈ L, l.toArray[p.1]? = some p.2 := by
    intro p hp
    rw [← hL, List.mem_filterMap] at hp
    obtain ⟨k, _, hk⟩ := hp
    cases hlk : l[k]? with
    | none => simp [hlk] at hk
    | some o =>
      simp [hlk] at hk
      subst hk
      simpa using hlk
  have h1 := anyT_of_lead (md := .any) (Q := Q) hs (by simpa using hot) L (Array.replicate l.length false) a w.drew hmem (by rw [hn]; exact hB) hS h
  refine wp_region_any hm (wpAny_onlyN _ _ _ _ (wpAny_of_T (S := S) (t := t) _ _ _ _ ?_))
  rw [hlen] at h1
  simpa using h1
end
end Go.Proofs.YtaoagbnhomjkpaaGreat

/- admit: a node in memory; New. -/
namespace Go.Proofs.YtaoagbnhomjkpaaGreat
set_option linter.unusedVariables false
set_option linter.unusedSimpArgs false
open Go.RowKit
set_option maxRecDepth 100000
set_option maxHeartbeats 4000000
theorem infoL : (Tryz.prog.info? 138).map (fun i => (i.zero, i.size, i.bytes)) = some (some (.pointer none), 1, 8) := by kernel_rfl
theorem infoK : (Tryz.prog.info? 84).map (fun i => (i.zero, i.size, i.bytes)) = some (some (.pointer none), 1, 8) := by kernel_rfl
theorem wpList_append_led {w : World} {ops : Array Oper} {rest : List Oper} {o : Oper} {a : Act} {Q : Exit → Act → World → Prop} (hgd : o.guard = none) (s x : Operand)
    (ho : o.op = .call { callee := .builtin .append, args := #[s, x], argTypes := #[135, 135] }) {base : Nat} {v : Value} {n : Nat} {xs : List Value} (hs : a.eval s = v) (hown : w.ownsRow base 138 1 v n xs)
    {b : Nat} {g : Nat} (hx : a.eval x = .slice (some ⟨b, 0, none⟩) 1 1) (hc : w.cell? ⟨b, 0, none⟩ = some (.pointer (some ⟨g, 0, none⟩))) (hb : n + 1 ≤ 17592186044416) (hbase : base ≤ w.heap.size)
    (h : ∀ v' w', w'.ownsRow base 138 1 v' (n + 1) (xs ++ [.pointer (some ⟨g, 0, none⟩)]) → w.grownBy w' v.ownBlock → wpList Tryz.prog ops Q rest (a.put o.dst v') w') : wpList Tryz.prog ops Q (o :: rest) a w := by
  obtain ⟨inf, hin, hi0, hi1, hi2⟩ := info_parts infoL
  refine wpList_append_own _ hgd s x 135 ho base 138 inf _ 1 8 Tryz.underlying135 hin hi0 hi1 hi2 rfl (by decide) v n xs hs hown ⟨b, 0, none⟩ 1 1 [.pointer (some ⟨g, 0, none⟩)] hx rfl ?_ (by simp [Value.oneCell']) (by unfold maxLen; omega) (by omega) hbase ?_
  · intro j u hj
    match j, hj with
    | 0, hj =>
      simp at hj
      rw [← hj]
      simpa [Go.WideShapes.add_plain] using hc
    | j + 1, hj => simp at hj
  · intro v' w' h1 h2 _
    exact h v' w' h1 h2
theorem wpList_append_lnk {w : World} {ops : Array Oper} {rest : List Oper} {o : Oper} {a : Act} {Q : Exit → Act → World → Prop} (hgd : o.guard = none) (s x : Operand)
    (ho : o.op = .call { callee := .builtin .append, args := #[s, x], argTypes := #[81, 81] }) {base : Nat} {v : Value} {n : Nat} {xs : List Value} (hs : a.eval s = v) (hown : w.ownsRow base 84 1 v n xs)
    {b : Nat} {g : Nat} (hx : a.eval x = .slice (some ⟨b, 0, none⟩) 1 1) (hc : w.cell? ⟨b, 0, none⟩ = some (.pointer (some ⟨g, 0, none⟩))) (hb : n + 1 ≤ 17592186044416) (hbase : base ≤ w.heap.size)
    (h : ∀ v' w', w'.ownsRow base 84 1 v' (n + 1) (xs ++ [.pointer (some ⟨g, 0, none⟩)]) → w.grownBy w' v.ownBlock → wpList Tryz.prog ops Q rest (a.put o.dst v') w') : wpList Tryz.prog ops Q (o :: rest) a w := by
  obtain ⟨inf, hin, hi0, hi1, hi2⟩ := info_parts infoK
  refine wpList_append_own _ hgd s x 81 ho base 84 inf _ 1 8 Tryz.underlying81 hin hi0 hi1 hi2 rfl (by decide) v n xs hs hown ⟨b, 0, none⟩ 1 1 [.pointer (some ⟨g, 0, none⟩)] hx rfl ?_ (by simp [Value.oneCell']) (by unfold maxLen; omega) (by omega) hbase ?_
  · intro j u hj
    match j, hj with
    | 0, hj =>
      simp at hj
      rw [← hj]
      simpa [Go.WideShapes.add_plain] using hc
    | j + 1, hj => simp at hj
  · intro v' w' h1 h2 _
    exact h v' w' h1 h2
/-- a node's block. -/
def NodRow (w : World) (N : Nat) (ls : Value) (T m : Nat) (nx : Int) : Prop := w.heap[N]? = some (.cells #[ls, .pointer (some ⟨T, 0, none⟩), .map (some m), .int .i64 nx] 137)
theorem NodRow.lt {w : World} {N T m : Nat} {ls : Value} {nx : Int} (h : NodRow w N ls T m nx) : N < w.heap.size := (Array.getElem?_eq_some_iff.1 h).1
theorem NodRow.below {w w' : World} {N T m : Nat} {ls : Value} {nx : Int} (h : NodRow w N ls T m nx) (hb : Below w.heap.size w w') : NodRow w' N ls T m nx := (hb.block N h.lt).trans h
theorem NodRow.cells {w : World} {N T m : Nat} {ls : Value} {nx : Int} (h : NodRow w N ls T m nx) : w.cell? ⟨N, 0, none⟩ = some ls ∧ w.cell? ⟨N, 1, none⟩ = some (.pointer (some ⟨T, 0, none⟩)) ∧ w.cell? ⟨N, 2, none⟩ = some (.map (some m)) ∧ w.cell? ⟨N, 3, none⟩ = some (.int .i64 nx) ∧ w.frozen? ⟨N, 0, none⟩ = false ∧ w.frozen? ⟨N, 3, none⟩ = false :=
  ⟨cell_of_row w N 0 _ _ _ h, cell_of_row w N 1 _ _ _ h, cell_of_row w N 2 _ _ _ h, cell_of_row w N 3 _ _ _ h, frozen_of_row w N 0 _ _ h, frozen_of_row w N 3 _ _ h⟩
theorem NodRow.set0 {w : World} {N T m : Nat} {ls ls' : Value} {nx : Int} (h : NodRow w N ls T m nx) : NodRow (w.setCell ⟨N, 0, none⟩ ls') N ls' T m nx := heap_setCell_same w N 0 _ _ _ h
theorem NodRow.set3 {w : World} {N T m : Nat} {ls : Value} {nx nx' : Int} (h : NodRow w N ls T m nx) : NodRow (w.setCell ⟨N, 3, none⟩ (.int .i64 nx')) N ls T m nx' := heap_setCell_same w N 3 _ _ _ h
/-- what append leaves: all but the row's own block. -/
theorem grown_block {w w' : World} {v : Value} {b : Nat} {o : Obj} (hg : w.grownBy w' v.ownBlock) (hb : w.heap[b]? = some o) (hn : v.ownBlock ≠ some b) : w'.heap[b]? = some o :=
  (hg.block b (Array.getElem?_eq_some_iff.1 hb).1 (fun e => hn e.symm)).trans hb
/-- a slice of two pointers. -/
structure Two (w : World) (lo hi : Nat) (ls : Value) (g0 g1 : Nat) (L cap : Nat) : Prop where
  val : ls = .slice (some ⟨L, 0, none⟩) 2 cap
  bd : lo ≤ L ∧ L < hi
  c0 : w.cell? ⟨L, 0, none⟩ = some (.pointer (some ⟨g0, 0, none⟩))
  c1 : w.cell? ⟨L, 1, none⟩ = some (.pointer (some ⟨g1, 0, none⟩))
theorem two_of {w : World} {base lo hi : Nat} {E : TypeId} {v : Value} {g0 g1 : Nat} (h : w.ownsRow base E 1 v 2 [.pointer (some ⟨g0, 0, none⟩), .pointer (some ⟨g1, 0, none⟩)]) (hl : lo ≤ base) (hh : w.heap.size ≤ hi) : ∃ L cap, Two w lo hi v g0 g1 L cap := by
  rcases h.2 with ⟨rfl, e⟩ | ⟨g, cap, cur, rfl, hbg, hg, hnc, hcm, hcs, htake⟩
  · simp at e
  · have hlt := (h.lt g rfl).2
    exact ⟨g, cap, rfl, ⟨by omega, by omega⟩, World.ownsRow.cellAt h 0 (by omega), World.ownsRow.cellAt h 1 (by omega)⟩
theorem own_val {w : World} {base n : Nat} {E : TypeId} {v : Value} {xs : List Value} (h : w.ownsRow base E 1 v n xs) (hn : 0 < n) : ∃ L cap, v = .slice (some ⟨L, 0, none⟩) n cap ∧ base ≤ L ∧ L < w.heap.size := by
  rcases h.2 with ⟨rfl, e⟩ | ⟨g, cap, cur, rfl, hbg, hg, hnc, hcm, hcs, htake⟩
  · omega
  · exact ⟨g, cap, rfl, hbg, (h.lt g rfl).2⟩
/-- a node on which nothing is booked, two links with as much room. -/
def Nod0 (lo hi N : Nat) (r : Int) (w : World) : Prop := ∃ L cap T m g0 g1 m1, NodRow w N (.slice (some ⟨L, 0, none⟩) 2 cap) T m 0 ∧ w.cell? ⟨L, 0, none⟩ = some (.pointer (some ⟨g0, 0, none⟩)) ∧ w.cell? ⟨L, 1, none⟩ = some (.pointer (some ⟨g1, 0, none⟩)) ∧ TabAt w T tab0 ∧ M0 w m ∧ LedAt w g1 r 0 m1 ∧ M0 w m1 ∧ m ≠ m1 ∧
  (lo ≤ N ∧ N < hi) ∧ (lo ≤ L ∧ L < hi) ∧ (lo ≤ T ∧ T < hi) ∧ (lo ≤ m ∧ m < hi) ∧ (lo ≤ g1 ∧ g1 < hi) ∧ (lo ≤ m1 ∧ m1 < hi) ∧ L ≠ N ∧ L ≠ T
theorem grown_set {w : World} {N o : Nat} {v : Value} : w.grownBy (w.setCell ⟨N, o, none⟩ v) (some N) :=
  ⟨rfl, rfl, rfl, by simp, fun k _ hn => Below.heap_setCell w ⟨N, o, none⟩ v k (fun e => hn (by rw [e]))⟩
theorem newN_any (R : Nat) (r : Int) (w : World) (h0 : w.cell? ⟨R, 0, none⟩ = some (.int .i64 r)) (h1 : w.cell? ⟨R, 1, none⟩ = some (.int .i64 r)) (r0 : 1 ≤ r) (r1 : r ≤ 1152921504606846976) :
    Calls Tryz.prog 24 #[.slice (some ⟨R, 0, none⟩) 2 2] w fun e w' => ∃ N, e = .returned (.pointer (some ⟨N, 0, none⟩)) ∧ Nod0 w.heap.size w'.heap.size N r w' ∧ Below w.heap.size w w' := by
  have hmm := @run_makeMap Tryz.prog
  go_enter Tryz.func24, Tryz.ntmps24
  go_wp2_with (go_at_call 25; refine (newT_any _).mono ?_; rintro e wt ⟨rfl, hT, hlt, hb⟩)
  obtain ⟨W, hW⟩ : ∃ W, W = ((wt.alloc (.map #[] 0)).alloc (.cells #[.slice none 0 0, .pointer (some ⟨w.heap.size, 0, none⟩), .map (some wt.heap.size), .int .i64 0] 137)) := ⟨_, rfl⟩
  have BW : Below w.heap.size w W := by rw [hW]; exact (hb.alloc (by omega) _).alloc (by simp; omega) _
  have bW : Below wt.heap.size wt W := by rw [hW]; exact ((Below.refl _ _).alloc (Nat.le_refl _) _).alloc (by simp) _
  have zW : W.heap.size = wt.heap.size + 2 := by rw [hW]; simp
  have TW : TabAt W w.heap.size tab0 := hT.below bW
  have MW : M0 W wt.heap.size := by rw [hW]; exact M0.below (w := wt.alloc (.map #[] 0)) (heap_alloc_new wt _) ((Below.refl _ _).alloc (Nat.le_refl _) _)
  have NW0 : NodRow W (wt.heap.size + 1) (.slice none 0 0) w.heap.size wt.heap.size 0 := by
    have g1 : (wt.alloc (.map #[] 0)).heap.size = wt.heap.size + 1 := by simp
    unfold NodRow
    rw [hW, ← g1]
    exact heap_alloc_new _ _
  rw [← hW]
  clear hW hT
  obtain ⟨T, hT⟩ : ∃ T, T = w.heap.size := ⟨_, rfl⟩
  obtain ⟨m, hm⟩ : ∃ m, m = wt.heap.size := ⟨_, rfl⟩
  obtain ⟨N, hN⟩ : ∃ N, N = wt.heap.size + 1 := ⟨_, rfl⟩
  rw [← hN] at NW0 ⊢
  rw [← hT] at NW0 TW ⊢
  rw [← hm] at NW0 MW ⊢
  have hR := World.block_lt_of_cell? w _ h0
  have k0 := (BW.cell (p := ⟨R, 0, none⟩) hR).trans h0
  have k1 := (BW.cell (p := ⟨R, 1, none⟩) hR).trans h1
  have LN : w.heap.size ≤ N ∧ N < W.heap.size ∧ w.heap.size ≤ m ∧ m < N ∧ w.heap.size ≤ T ∧ T < m := by omega
  clear hN hT hm zW bW
  refine wp_loop_rounds 3 ?_
  rw [rounds_succ]
  go_wp2
  have S0 : Cs1 N 0 (.slice none 0 0) W.drew := ⟨NW0.cells.1, trivial⟩
  (refine wp_region_leadT (Cs1 N 0 (.slice none 0 0)) [6, 7, 8, 9, 10] [0, 1, 2, 3, 4, 5, 6, 7, 8, 9, 10] 11 _ _ (by kernel_rfl) (by kernel_rfl) (by kernel_rfl) rfl (by simp only [List.filterMap_cons, List.getElem?_cons_zero, List.getElem?_cons_succ, Option.map_some, List.filterMap_nil]; rfl) rfl rfl S0 ?_)
  have g0 := fun g : Wits (Cs1 N 0 (.slice none 0 0)) => (Wits.is g).1
  (refine lead_quietB_n 6 rfl S0 ?_); (intro _); (simp only [List.take_succ_cons, List.take_zero, List.drop_succ_cons, List.drop_zero, List.map_cons, List.map_nil]); (repeat (go_big_quiet_step (fail))); (refine wpQuiet_nil ?_)
  clear g0
  refine lead_one rfl ?_ S0
  go_wp2_with (go_at_call 49; (with_reducible refine (newL_ex r _ r0 r1).mono ?_); rintro e wa ⟨ga, ma, rfl, Ma, La, la, ba⟩)
  have Sa := S0.below ba
  refine ⟨rfl, Sa, ?_⟩
  refine lead_one rfl ?_ Sa
  have Bb : Below wa.heap.size wa (wa.alloc (.cells #[.pointer (some ⟨ga, 0, none⟩)] 138)) := (Below.refl _ _).alloc (Nat.le_refl _) _
  go_wp2
  have Sb := Sa.below Bb
  refine ⟨rfl, Sb, ?_⟩
  refine lead_one rfl ?_ Sb
  go_wp2_with (refine wpList_append_led (base := wa.heap.size) (v := .slice none 0 0) (n := 0) (xs := []) (b := wa.heap.size) (g := ga) rfl _ _ rfl rfl (World.ownsRow_nil _ _ _ _) rfl (cell_top rfl rfl) (by omega) (by simp) ?_; intro v1 w1 o1 g1; obtain ⟨L1, p1, rfl, l1⟩ := own_val (n := 1) o1 (by omega))
  have B1 : Below W.heap.size W w1 := (Below.refl _ _).drew.trans ((ba.trans (Bb.mono ba.size)).trans ((below_grown g1 (fun k hk => by cases hk)).mono (Nat.le_trans ba.size Bb.size)))
  have N1 := NW0.below B1
  have S1 : Cs1 N 0 (.slice none 0 0) w1 := ⟨N1.cells.1, trivial⟩
  obtain ⟨c0, _, _, _, f0, _⟩ := N1.cells
  refine ⟨rfl, S1, ?_⟩
  refine lead_one rfl ?_ S1
  go_wp2
  refine ⟨rfl, S1, ?_⟩
  refine lead_one rfl ?_ S1
  go_wp2
  refine ⟨rfl, S1, ?_⟩
  refine lead_nil ?_
  go_wp2
  refine ⟨rfl, ?_⟩
  go_wp2
  obtain ⟨V, hV⟩ : ∃ V, V = w1.setCell ⟨N, 0, none⟩ (.slice (some ⟨L1, 0, none⟩) 1 p1) := ⟨_, rfl⟩
  have oV : V.ownsRow wa.heap.size 138 1 (.slice (some ⟨L1, 0, none⟩) 1 p1) 1 [.pointer (some ⟨ga, 0, none⟩)] := by
    rw [hV]
    exact World.ownsRow.kept o1 grown_set (.inr (by simp [Value.ownBlock]; have := ba.size; simp at this; omega))
  have NV : NodRow V N (.slice (some ⟨L1, 0, none⟩) 1 p1) T m 0 := by rw [hV]; exact N1.set0
  have BV : Below w.heap.size w V := by rw [hV]; exact (BW.trans (B1.mono BW.size)).setCell LN.1 _
  have tV : TabAt V T tab0 := by rw [hV]; exact (Below.heap_setCell w1 ⟨N, 0, none⟩ _ T (show T ≠ N by omega)).trans (TW.below B1)
  have mV : M0 V m := by rw [hV]; exact (Below.heap_setCell w1 ⟨N, 0, none⟩ _ m (show m ≠ N by omega)).trans (MW.below B1)
  have sV : W.heap.size ≤ wa.heap.size ∧ L1 < V.heap.size ∧ wa.heap.size ≤ L1 := by rw [hV]; simp; have := ba.size; simp at this; omega
  rw [← hV]
  have q0 := (BV.cell (p := ⟨R, 0, none⟩) hR).trans h0
  have q1 := (BV.cell (p := ⟨R, 1, none⟩) hR).trans h1
  clear hV o1 g1 B1 N1 S1 c0 f0 S0 Sa Sb Bb ba La Ma la l1 NW0 TW MW k0 k1 BW
  rw [rounds_succ]
  go_wp2
  have S0 : Cs1 N 0 (.slice (some ⟨L1, 0, none⟩) 1 p1) V.drew := ⟨NV.cells.1, trivial⟩
  (refine wp_region_leadT (Cs1 N 0 (.slice (some ⟨L1, 0, none⟩) 1 p1)) [6, 7, 8, 9, 10] [0, 1, 2, 3, 4, 5, 6, 7, 8, 9, 10] 11 _ _ (by kernel_rfl) (by kernel_rfl) (by kernel_rfl) rfl (by simp only [List.filterMap_cons, List.getElem?_cons_zero, List.getElem?_cons_succ, Option.map_some, List.filterMap_nil]; rfl) rfl rfl S0 ?_)
  have g0 := fun g : Wits (Cs1 N 0 (.slice (some ⟨L1, 0, none⟩) 1 p1)) => (Wits.is g).1
  (refine lead_quietB_n 6 rfl S0 ?_); (intro _); (simp only [List.take_succ_cons, List.take_zero, List.drop_succ_cons, List.drop_zero, List.map_cons, List.map_nil]); (repeat (go_big_quiet_step (fail))); (refine wpQuiet_nil ?_)
  clear g0
  refine lead_one rfl ?_ S0
  go_wp2_with (go_at_call 49; (with_reducible refine (newL_ex r _ r0 r1).mono ?_); rintro e wc ⟨gc, mc, rfl, Mc, Lc, lc, bc⟩)
  have Sa := S0.below bc
  refine ⟨rfl, Sa, ?_⟩
  refine lead_one rfl ?_ Sa
  have Bb : Below wc.heap.size wc (wc.alloc (.cells #[.pointer (some ⟨gc, 0, none⟩)] 138)) := (Below.refl _ _).alloc (Nat.le_refl _) _
  go_wp2
  have Sb := Sa.below Bb
  refine ⟨rfl, Sb, ?_⟩
  refine lead_one rfl ?_ Sb
  have oc := own_below (own_below oV.drew bc) Bb
  have sc : V.heap.size ≤ wc.heap.size := bc.size
  have hbs : wa.heap.size ≤ (wc.alloc (.cells #[.pointer (some ⟨gc, 0, none⟩)] 138)).heap.size := by have := Bb.size; omega
  go_wp2_with (refine wpList_append_led (base := wa.heap.size) (v := .slice (some ⟨L1, 0, none⟩) 1 p1) (n := 1) (xs := [.pointer (some ⟨ga, 0, none⟩)]) (b := wc.heap.size) (g := gc) rfl _ _ rfl rfl oc rfl (cell_top rfl rfl) (by omega) hbs ?_; intro v2 w2 o2 g2; obtain ⟨L2, p2, rfl, l2⟩ := own_val (n := 2) o2 (by omega))
  have eL : (Value.slice (some ⟨L1, 0, none⟩) 1 p1).ownBlock = some L1 := rfl
  have sb : (wc.alloc (.cells #[.pointer (some ⟨gc, 0, none⟩)] 138)).heap.size = wc.heap.size + 1 := by simp
  have key : ∀ k o, wc.heap[k]? = some o → k ≠ L1 → w2.heap[k]? = some o := fun k o hk h1 => by
    have hk' := (Array.getElem?_eq_some_iff.1 hk).1
    exact (g2.block k (by omega) (by rw [eL]; simpa using h1)).trans ((Bb.block k hk').trans hk)
  have keyV : ∀ k o, V.heap[k]? = some o → k ≠ L1 → w2.heap[k]? = some o := fun k o hk h1 =>
    key k o ((bc.block k (Array.getElem?_eq_some_iff.1 hk).1).trans hk) h1
  have lc' : V.heap.size ≤ mc ∧ mc < gc ∧ gc < wc.heap.size := lc
  have N2 : NodRow w2 N (.slice (some ⟨L1, 0, none⟩) 1 p1) T m 0 := keyV _ _ NV (by omega)
  have T2 : TabAt w2 T tab0 := keyV _ _ tV (by omega)
  have m2 : M0 w2 m := keyV _ _ mV (by omega)
  have Mc2 : M0 w2 mc := key _ _ Mc (by omega)
  have Lc2 : LedAt w2 gc r 0 mc := key _ _ Lc (by omega)
  have sBV := BV.size
  have hwc : w.heap.size ≤ wc.heap.size := by omega
  have hwb : w.heap.size ≤ (wc.alloc (.cells #[.pointer (some ⟨gc, 0, none⟩)] 138)).heap.size := by omega
  have hw1 : w.heap.size ≤ L1 := by omega
  have bcv : Below V.heap.size V wc := (Below.refl _ _).drew.trans bc
  have B2 : Below w.heap.size w w2 := ((BV.trans (bcv.mono sBV)).trans (Bb.mono hwc)).trans ((Below.refl _ _).grown g2 hwb (fun k hk => by rw [eL] at hk; injection hk with hk; rw [← hk]; exact hw1))
  have S2 : Cs1 N 0 (.slice (some ⟨L1, 0, none⟩) 1 p1) w2 := ⟨N2.cells.1, trivial⟩
  obtain ⟨c0, _, _, _, f0, _⟩ := N2.cells
  have k0 : w2.cell? ⟨L2, 0, none⟩ = some (.pointer (some ⟨ga, 0, none⟩)) := World.ownsRow.cellAt o2 0 (by omega)
  have k1 : w2.cell? ⟨L2, 1, none⟩ = some (.pointer (some ⟨gc, 0, none⟩)) := World.ownsRow.cellAt o2 1 (by omega)
  have zL : N ≠ L2 := by omega
  have z2 : wc.heap.size ≤ w2.heap.size := by have := g2.size; omega
  clear key keyV sb hbs lc hwc hwb hw1 bcv sBV
  refine ⟨rfl, S2, ?_⟩
  refine lead_one rfl ?_ S2
  go_wp2
  refine ⟨rfl, S2, ?_⟩
  refine lead_one rfl ?_ S2
  go_wp2
  refine ⟨rfl, S2, ?_⟩
  refine lead_nil ?_
  go_wp2
  refine ⟨rfl, ?_⟩
  go_wp2
  rw [rounds_succ]
  go_wp2
  go_ret
  obtain ⟨X, hX⟩ : ∃ X, X = w2.setCell ⟨N, 0, none⟩ (.slice (some ⟨L2, 0, none⟩) 2 p2) := ⟨_, rfl⟩
  have sX : X.heap.size = w2.heap.size := by rw [hX]; simp
  have kX : ∀ k o, w2.heap[k]? = some o → k ≠ N → X.heap[k]? = some o := fun k o hk hn => by rw [hX]; exact (Below.heap_setCell w2 ⟨N, 0, none⟩ _ k hn).trans hk
  rw [← hX]
  refine ⟨N, rfl, ⟨L2, p2, T, m, ga, gc, mc, by rw [hX]; exact N2.set0, by rw [hX]; exact cell_beside zL k0, by rw [hX]; exact cell_beside zL k1, kX _ _ T2 (by omega), kX _ _ m2 (by omega), kX _ _ Lc2 (by omega), kX _ _ Mc2 (by omega), by omega, ?_⟩, by rw [hX]; exact B2.setCell LN.1 _⟩
  omega
end Go.Proofs.YtaoagbnhomjkpaaGreat

/- conns: the two keys of the laws in a table. -/
namespace Go.Proofs.YtaoagbnhomjkpaaGreat
set_option linter.unusedVariables false
set_option linter.unusedSimpArgs false
open Go.RowKit
set_option maxRecDepth 100000
set_option maxHeartbeats 4000000
theorem eq_out (w : World) : (binOp .eql 29 (.agg #[.int .i64 1, .int .i64 0, .int .i64 50]) (.agg #[.int .i64 1, .int .i64 0, .int .i64 50])).run Tryz.prog w = .ok (.bool true) w := by kernel_rfl
theorem tabLn : tab0[640]? = some (.int .i64 0) ∧ tab0[641]? = some (.int .i64 64) := ⟨by kernel_rfl, by kernel_rfl⟩
theorem tab71 : tab0[71 * 5]? = some (.int .i64 0) ∧ tab0[71 * 5 + 1]? = some (.int .i64 0) ∧ tab0[71 * 5 + 2]? = some (.int .i64 0) ∧ tab0[71 * 5 + 3]? = some (.int .i64 0) ∧ tab0[71 * 5 + 4]? = some (.bool false) := ⟨by kernel_rfl, by kernel_rfl, by kernel_rfl, by kernel_rfl, by kernel_rfl⟩
theorem tab3 : tab0[3 * 5]? = some (.int .i64 0) ∧ tab0[3 * 5 + 1]? = some (.int .i64 0) ∧ tab0[3 * 5 + 2]? = some (.int .i64 0) ∧ tab0[3 * 5 + 3]? = some (.int .i64 0) ∧ tab0[3 * 5 + 4]? = some (.bool false) := ⟨by kernel_rfl, by kernel_rfl, by kernel_rfl, by kernel_rfl, by kernel_rfl⟩
/-- with the outgoing key in it; with the incoming one. -/
noncomputable def tabO : Array Value := putC tab0 71 1 0 50 0 0
noncomputable def tabI : Array Value := putC tab0 3 0 0 40 0 0
theorem tabO71 : tabO[71 * 5]? = some (.int .i64 1) ∧ tabO[71 * 5 + 1]? = some (.int .i64 0) ∧ tabO[71 * 5 + 2]? = some (.int .i64 50) ∧ tabO[71 * 5 + 3]? = some (.int .i64 0) ∧ tabO[71 * 5 + 4]? = some (.bool true) := ⟨by kernel_rfl, by kernel_rfl, by kernel_rfl, by kernel_rfl, by kernel_rfl⟩
theorem tabI3 : tabI[3 * 5]? = some (.int .i64 0) ∧ tabI[3 * 5 + 1]? = some (.int .i64 0) ∧ tabI[3 * 5 + 2]? = some (.int .i64 40) ∧ tabI[3 * 5 + 3]? = some (.int .i64 0) ∧ tabI[3 * 5 + 4]? = some (.bool true) := ⟨by kernel_rfl, by kernel_rfl, by kernel_rfl, by kernel_rfl, by kernel_rfl⟩
theorem find_out0 (T : Nat) (w : World) (h : TabAt w T tab0) : Calls Tryz.prog 56 #[.pointer (some ⟨T, 0, none⟩), .agg #[.int .i64 1, .int .i64 0, .int .i64 50]] w fun e w' => e = .returned (.int .i64 ((71 : Nat) : Int)) ∧ Below w.heap.size w w' :=
  find_free T 71 1 0 50 tab0 w h (by omega) tab71.2.2.2.2 home_out
theorem find_in0 (T : Nat) (w : World) (h : TabAt w T tab0) : Calls Tryz.prog 56 #[.pointer (some ⟨T, 0, none⟩), .agg #[.int .i64 0, .int .i64 0, .int .i64 40]] w fun e w' => e = .returned (.int .i64 ((3 : Nat) : Int)) ∧ Below w.heap.size w w' :=
  find_free T 3 0 0 40 tab0 w h (by omega) tab3.2.2.2.2 home_in
theorem find_out1 (T : Nat) (w : World) (h : TabAt w T tabO) : Calls Tryz.prog 56 #[.pointer (some ⟨T, 0, none⟩), .agg #[.int .i64 1, .int .i64 0, .int .i64 50]] w fun e w' => e = .returned (.int .i64 ((71 : Nat) : Int)) ∧ Below w.heap.size w w' :=
  find_there T 71 1 0 50 tabO w h (by omega) tabO71.2.2.2.2 tabO71.1 tabO71.2.1 tabO71.2.2.1 eq_out home_out
theorem find_in1 (T : Nat) (w : World) (h : TabAt w T tabI) : Calls Tryz.prog 56 #[.pointer (some ⟨T, 0, none⟩), .agg #[.int .i64 0, .int .i64 0, .int .i64 40]] w fun e w' => e = .returned (.int .i64 ((3 : Nat) : Int)) ∧ Below w.heap.size w w' :=
  find_there T 3 0 0 40 tabI w h (by omega) tabI3.2.2.2.2 tabI3.1 tabI3.2.1 tabI3.2.2.1 eq_in home_in
theorem get_out0 (T : Nat) (w : World) (h : TabAt w T tab0) : Calls Tryz.prog 50 #[.pointer (some ⟨T, 0, none⟩), .agg #[.int .i64 1, .int .i64 0, .int .i64 50]] w fun e w' => e = .returned (.tuple #[.int .i64 0, .bool false]) ∧ Below w.heap.size w w' :=
  get_any T 71 1 0 50 0 0 0 0 false tab0 w h (by omega) tab71.1 tab71.2.1 tab71.2.2.1 tab71.2.2.2.1 tab71.2.2.2.2 (find_out0 T)
theorem get_in0 (T : Nat) (w : World) (h : TabAt w T tab0) : Calls Tryz.prog 50 #[.pointer (some ⟨T, 0, none⟩), .agg #[.int .i64 0, .int .i64 0, .int .i64 40]] w fun e w' => e = .returned (.tuple #[.int .i64 0, .bool false]) ∧ Below w.heap.size w w' :=
  get_any T 3 0 0 40 0 0 0 0 false tab0 w h (by omega) tab3.1 tab3.2.1 tab3.2.2.1 tab3.2.2.2.1 tab3.2.2.2.2 (find_in0 T)
theorem get_out1 (T : Nat) (w : World) (h : TabAt w T tabO) : Calls Tryz.prog 50 #[.pointer (some ⟨T, 0, none⟩), .agg #[.int .i64 1, .int .i64 0, .int .i64 50]] w fun e w' => e = .returned (.tuple #[.int .i64 0, .bool true]) ∧ Below w.heap.size w w' :=
  get_any T 71 1 0 50 1 0 50 0 true tabO w h (by omega) tabO71.1 tabO71.2.1 tabO71.2.2.1 tabO71.2.2.2.1 tabO71.2.2.2.2 (find_out1 T)
theorem get_in1 (T : Nat) (w : World) (h : TabAt w T tabI) : Calls Tryz.prog 50 #[.pointer (some ⟨T, 0, none⟩), .agg #[.int .i64 0, .int .i64 0, .int .i64 40]] w fun e w' => e = .returned (.tuple #[.int .i64 0, .bool true]) ∧ Below w.heap.size w w' :=
  get_any T 3 0 0 40 0 0 40 0 true tabI w h (by omega) tabI3.1 tabI3.2.1 tabI3.2.2.1 tabI3.2.2.2.1 tabI3.2.2.2.2 (find_in1 T)
theorem put_out (T : Nat) (w : World) (h : TabAt w T tab0) : Calls Tryz.prog 33 #[.pointer (some ⟨T, 0, none⟩), .agg #[.int .i64 1, .int .i64 0, .int .i64 50], .int .i64 0] w fun e w' => e = .returned (.int .i64 0) ∧ TabAt w' T tabO ∧ Chg T w w' :=
  put_any T 71 1 0 50 0 0 tab0 w h (by omega) 0 0 0 0 tab71.1 tab71.2.1 tab71.2.2.1 tab71.2.2.2.1 tab71.2.2.2.2 tabLn.1 tabLn.2 (by omega) (by omega) (find_out0 T) right_out
theorem put_in (T : Nat) (w : World) (h : TabAt w T tab0) : Calls Tryz.prog 33 #[.pointer (some ⟨T, 0, none⟩), .agg #[.int .i64 0, .int .i64 0, .int .i64 40], .int .i64 0] w fun e w' => e = .returned (.int .i64 0) ∧ TabAt w' T tabI ∧ Chg T w w' :=
  put_any T 3 0 0 40 0 0 tab0 w h (by omega) 0 0 0 0 tab3.1 tab3.2.1 tab3.2.2.1 tab3.2.2.2.1 tab3.2.2.2.2 tabLn.1 tabLn.2 (by omega) (by omega) (find_in0 T) right_in
end Go.Proofs.YtaoagbnhomjkpaaGreat

/- Plain words of costs: cells in a unit, and what a contract needs, over the integers. No program is in sight here. -/
namespace Go.Proofs.YtaoagbnhomjkpaaGreat
set_option linter.unusedVariables false
set_option linter.unusedSimpArgs false
def perZ (s : Int) : Int := if s < 1 then 0 else 1 + 1048575 / s
def upZ (n by' : Int) : Int := (n + by' - 1) / by'
def needZ (k p e wh b l : Int) : Int :=
  if rightZ k p e wh b l ≠ 0 then 0 else if k = 1 then perZ p else if k = 5 then perZ l else if 2 ≤ k ∧ k ≤ 4 then upZ (perZ wh * 4096 + perZ p * b) (b + 4096) else 0
theorem perZ_b (s : Int) : 0 ≤ perZ s ∧ perZ s ≤ 1048576 := by
  unfold perZ
  split
  · omega
  · have h1 := Int.ediv_le_self (a := 1048575) s (by omega)
    have h2 : 0 ≤ 1048575 / s := Int.ediv_nonneg (by omega) (by omega)
    omega
theorem perZ_ref {s : Int} (h : 1 ≤ s) : (1048576 % s > 0 → perZ s = 1048576 / s + 1) ∧ (¬ 1048576 % s > 0 → perZ s = 1048576 / s) := by
  have h1 := Int.mul_ediv_add_emod 1048576 s
  have h2 := Int.emod_nonneg 1048576 (by omega : s ≠ 0)
  have h3 := Int.emod_lt_of_pos 1048576 (by omega : 0 < s)
  unfold perZ
  rw [if_neg (by omega)]
  generalize 1048576 / s = q at *
  generalize 1048576 % s = r at *
  constructor
  · intro h4
    rw [show (1048575 : Int) = (r - 1) + s * q by omega, Int.add_mul_ediv_left _ _ (by omega), Int.ediv_eq_zero_of_lt (by omega) (by omega)]; omega
  · intro h4
    have : r = 0 := by omega
    subst this
    rw [show (1048575 : Int) = (s - 1) + s * (q - 1) by rw [Int.mul_sub]; omega, Int.add_mul_ediv_left _ _ (by omega), Int.ediv_eq_zero_of_lt (by omega) (by omega)]; omega
theorem upZ_ref {n d : Int} (h0 : 0 ≤ n) (h : 1 ≤ d) : (n % d > 0 → upZ n d = n / d + 1) ∧ (¬ n % d > 0 → upZ n d = n / d) := by
  have h1 := Int.mul_ediv_add_emod n d
  have h2 := Int.emod_nonneg n (by omega : d ≠ 0)
  have h3 := Int.emod_lt_of_pos n (by omega : 0 < d)
  unfold upZ
  generalize hq : n / d = q at *
  generalize hr : n % d = r at *
  constructor
  · intro h4
    rw [show n + d - 1 = (r - 1) + d * (q + 1) by rw [Int.mul_add]; omega, Int.add_mul_ediv_left _ _ (by omega), Int.ediv_eq_zero_of_lt (by omega) (by omega)]; omega
  · intro h4
    have : r = 0 := by omega
    subst this
    rw [show n + d - 1 = (d - 1) + d * q by omega, Int.add_mul_ediv_left _ _ (by omega), Int.ediv_eq_zero_of_lt (by omega) (by omega)]; omega
theorem upZ_le {n d c : Int} (h : 1 ≤ d) : upZ n d ≤ c ↔ n ≤ c * d := by
  unfold upZ
  have h1 : (n + d - 1) / d < c + 1 ↔ n + d - 1 < (c + 1) * d := Int.ediv_lt_iff_lt_mul (by omega)
  rw [Int.add_mul, Int.one_mul] at h1
  omega
theorem upZ_ge {n d : Int} (h : 1 ≤ d) : n ≤ upZ n d * d := (upZ_le h).1 (Int.le_refl _)
theorem mul_le {a b c : Int} (h : a ≤ b) (hc : 0 ≤ c) : a * c ≤ b * c := Int.mul_le_mul_of_nonneg_right h hc
/-- what lies between the whole's cells and the peak's. -/
def mixZ (W P b : Int) : Int := upZ (W * 4096 + P * b) (b + 4096)
theorem mix_hi {W P b : Int} (h0 : 0 ≤ b) (h : W ≤ P) : mixZ W P b ≤ P := by
  unfold mixZ
  rw [upZ_le (by omega), Int.mul_add]
  omega
theorem mix_lo {W P b : Int} (h0 : 0 ≤ b) (h : W ≤ P) : W ≤ mixZ W P b := by
  unfold mixZ
  have h1 := upZ_ge (n := W * 4096 + P * b) (d := b + 4096) (by omega)
  generalize upZ (W * 4096 + P * b) (b + 4096) = c at h1
  by_cases hc : c < W
  · have h2 := mul_le (a := c) (b := W - 1) (c := b + 4096) (by omega) (by omega)
    have h3 := mul_le h h0
    rw [Int.sub_mul, Int.mul_add, Int.mul_add] at h2
    rw [Int.mul_add] at h1
    omega
  · omega
theorem mix_mono {W P b W' P' b' : Int} (h0 : 0 ≤ b) (hb : b ≤ b') (hW : W ≤ W') (hP : P ≤ P') (hWP : W' ≤ P') : mixZ W P b ≤ mixZ W' P' b' := by
  have hlo := mix_lo (W := W') (P := P') (b := b') (by omega) hWP
  unfold mixZ at *
  have h1 := upZ_ge (n := W' * 4096 + P' * b') (d := b' + 4096) (by omega)
  generalize upZ (W' * 4096 + P' * b') (b' + 4096) = c at *
  rw [upZ_le (by omega)]
  have h2 := mul_le hP h0
  rw [Int.mul_add] at h1 ⊢
  by_cases hc : c < P'
  · have h3 := mul_le (a := 0) (b := P' - c) (c := b' - b) (by omega) (by omega)
    rw [Int.zero_mul, Int.mul_sub, Int.sub_mul, Int.sub_mul] at h3
    omega
  · have h3 := mul_le (a := P') (b := c) (c := b) (by omega) h0
    omega
theorem mix_zero (W P : Int) : mixZ W P 0 = W := by
  unfold mixZ upZ
  omega
theorem mix_half (W P : Int) : mixZ W P 4096 = (P + W + 1) / 2 := by
  unfold mixZ upZ
  omega
theorem perZ_anti {a b : Int} (h0 : 1 ≤ a) (h : a ≤ b) : perZ b ≤ perZ a := by
  unfold perZ
  rw [if_neg (by omega), if_neg (by omega)]
  have h1 : 1048575 / b * b ≤ 1048575 := Int.ediv_mul_le _ (by omega)
  have h2 : 0 ≤ 1048575 / b := Int.ediv_nonneg (by omega) (by omega)
  have h3 : 1048575 / b ≤ 1048575 / a := by
    rw [Int.le_ediv_iff_mul_le (by omega)]
    have : 1048575 / b * a ≤ 1048575 / b * b := Int.mul_le_mul_of_nonneg_left h h2
    omega
  omega
theorem perZ_spec {x : Int} (h : 1 ≤ x) : 1 ≤ perZ x ∧ (1048576 < x → perZ x = 1) ∧ 1048576 ≤ perZ x * x ∧ (perZ x - 1) * x < 1048576 ∧ 0 ≤ (perZ x - 1) * x ∧ (x ≤ 1048576 → perZ x * x ≤ 2097152) := by
  unfold perZ
  rw [if_neg (by omega)]
  have h1 : 1048575 / x * x ≤ 1048575 := Int.ediv_mul_le _ (by omega)
  have h2 : 0 ≤ 1048575 / x := Int.ediv_nonneg (by omega) (by omega)
  have h3 : 1048575 < (1048575 / x + 1) * x := Int.lt_ediv_add_one_mul_self _ (by omega)
  have h4 : 0 ≤ 1048575 / x * x := Int.mul_nonneg h2 (by omega)
  have h5 : 1048576 < x → 1048575 / x = 0 := fun h => Int.ediv_eq_zero_of_lt (by omega) (by omega)
  rw [show 1 + 1048575 / x - 1 = 1048575 / x by omega, show 1 + 1048575 / x = 1048575 / x + 1 by omega]
  rw [Int.add_mul] at h3 ⊢
  omega
theorem needZ_vbr {k p e wh b l : Int} (h : FineP k p e wh b l) (hk : 2 ≤ k ∧ k ≤ 4) : needZ k p e wh b l = mixZ (perZ wh) (perZ p) b := by
  unfold needZ mixZ
  rw [if_neg (by rw [rightZ_zero.2 h]; omega), if_neg (by omega), if_neg (by omega), if_pos hk]
theorem needZ_bad {k p e wh b l : Int} (h : ¬ rightZ k p e wh b l = 0) : needZ k p e wh b l = 0 := by unfold needZ; rw [if_pos h]
theorem needZ_b (k p e wh b l : Int) (h : FineP k p e wh b l) : 0 ≤ needZ k p e wh b l ∧ needZ k p e wh b l ≤ perZ p := by
  by_cases hk : 2 ≤ k ∧ k ≤ 4
  · rw [needZ_vbr h hk]
    have h1 : 1 ≤ p ∧ p ≤ wh ∧ 0 ≤ b := by unfold FineP at h; omega
    have h2 := perZ_anti h1.1 h1.2.1
    have h3 := mix_hi h1.2.2 h2
    have h4 := mix_lo h1.2.2 h2
    have := perZ_b wh
    omega
  · have hp := perZ_b p
    have hl := perZ_b l
    have h5 : k = 5 → perZ l ≤ perZ p := fun hk => by
      have : 1 ≤ p ∧ (l = 0 ∨ p ≤ l) := by unfold FineP at h; omega
      rcases this.2 with h6 | h6
      · have : perZ l = 0 := by unfold perZ; rw [if_pos (by omega)]
        omega
      · exact perZ_anti this.1 h6
    unfold needZ
    rw [if_neg (by rw [rightZ_zero.2 h]; omega)]
    split
    · omega
    · split
      · omega
      · omega
theorem needZ_le (k p e wh b l : Int) : 0 ≤ needZ k p e wh b l ∧ needZ k p e wh b l ≤ 1048576 := by
  by_cases h : rightZ k p e wh b l = 0
  · have := needZ_b k p e wh b l (rightZ_zero.1 h)
    have := perZ_b p
    omega
  · rw [needZ_bad h]; omega
/-- what allows no more needs no more. -/
theorem needZ_mono {k p e wh b l p' e' wh' b' : Int} (h : FineP k p e wh b l) (h' : FineP k p' e' wh' b' l) (hp : p' ≤ p) (hw : wh' ≤ wh) (hb : b ≤ b') : needZ k p e wh b l ≤ needZ k p' e' wh' b' l := by
  have h0 : 1 ≤ p' := by unfold FineP at h'; omega
  have a := perZ_anti h0 hp
  by_cases hk : 2 ≤ k ∧ k ≤ 4
  · rw [needZ_vbr h hk, needZ_vbr h' hk]
    have h1 : 1 ≤ p' ∧ p' ≤ wh' ∧ 0 ≤ b := by unfold FineP at h h'; omega
    exact mix_mono h1.2.2 hb (perZ_anti (by omega) hw) a (perZ_anti h1.1 h1.2.1)
  · have e1 : ¬ rightZ k p e wh b l ≠ 0 := by rw [rightZ_zero.2 h]; omega
    have e2 : ¬ rightZ k p' e' wh' b' l ≠ 0 := by rw [rightZ_zero.2 h']; omega
    unfold needZ
    rw [if_neg e1, if_neg e2]
    by_cases k1 : k = 1
    · rw [if_pos k1, if_pos k1]; exact a
    · rw [if_neg k1, if_neg k1]
      by_cases k5 : k = 5
      · rw [if_pos k5, if_pos k5]; exact Int.le_refl _
      · rw [if_neg k5, if_neg k5, if_neg hk, if_neg hk]; exact Int.le_refl _
attribute [irreducible] perZ upZ needZ mixZ
end Go.Proofs.YtaoagbnhomjkpaaGreat
