/- A region that draws its order: one walk in an order of ours. What yields its value in every world that meets S may be taken first; what does more must be the only one that may come up; behind it S is shown anew. -/
import Derived.Test.YtndmmhljphlhjaaKit2
import Derived.OrdersHeld
import Derived.BigCall
import Derived.StillTail
namespace Go.Proofs.Ytndmmhljphlhjaa
set_option linter.unusedVariables false
set_option linter.unusedSimpArgs false
open Go.RowKit
section
variable {P : Program} {ops : Array Oper} {md : Region.Mode} {S : World → Prop}
def onlyN (Q : Exit → Act → World → Prop) : Exit → Act → World → Prop := fun e a w => e = .normal ∧ Q .normal a w
theorem letsOut_onlyN {Q : Exit → Act → World → Prop} (h : LetsOut (onlyN Q)) : False := by
  obtain ⟨_, _, h, _⟩ := h
  cases h
theorem wp_onlyN {Q : Exit → Act → World → Prop} {o : Oper} {a : Act} {w : World} {K K' : Act → World → Prop} (hk : ∀ a w, K a w → K' a w) (h : o.wp P a w K (onlyN Q)) : o.wp P a w K' Q := by
  unfold Oper.wp at *
  generalize (execOp a.eval o).run P w = r at *
  cases r with
  | halt x w' =>
    cases x <;> simp only [Oper.upon] at h ⊢
    case panic v => cases h.1
  | ok n w' =>
    cases n <;> simp only [Oper.upon] at h ⊢
    case value v => exact hk _ _ h
    case skip => exact hk _ _ h
    case defer d => exact hk _ _ h
    case enter f args =>
      refine Calls.mono h fun e w'' he => ?_
      cases e with
      | returned v => exact hk _ _ he
      | panicked c => cases he.1
      | outgrown => exact (letsOut_onlyN he).elim
    case row row args => exact Rows.mono h fun u w'' he => hk _ _ he
theorem wpAny_onlyN {Q : Exit → Act → World → Prop} : ∀ (fuel : Nat) (listed : Array Bool) (a : Act) (w : World), wpAny P md ops (onlyN Q) fuel listed a w → wpAny P md ops Q fuel listed a w
  | 0, _, _, _, h => ⟨h.1, h.2.2⟩
  | fuel + 1, _, _, _, h => ⟨fun h0 => (h.1 h0).2, fun i hi => by
      have h1 := h.2 i hi
      unfold wpOp at h1 ⊢
      split
      · rename_i ho; simp only [ho] at h1; exact wpAny_onlyN fuel _ _ _ h1
      · rename_i o ho
        simp only [ho] at h1
        split
        · rename_i hw
          simp only [hw, if_true] at h1
          rcases h1 with h1 | ⟨_, h1⟩
          · exact .inl (wp_onlyN (fun a w => wpAny_onlyN fuel _ a w) h1)
          · exact (letsOut_onlyN h1).elim
        · rename_i hw; simp only [hw] at h1; exact wpAny_onlyN fuel _ _ _ h1⟩
/-- the order of ours: is it one, may each free operation be taken first, and does each rigid one stand alone? -/
def leadB (md : Region.Mode) (ops : Array Oper) (rigid : Nat → Bool) : List Nat → Array Bool → Bool
  | [], listed => (Region.ready md ops listed).isEmpty
  | k :: rest, listed =>
    (if rigid k then decide (Region.ready md ops listed = [k])
      else (Region.ready md ops listed).contains k && Region.free md ops listed k) && leadB md ops rigid rest (listed.setIfInBounds k true)
/-- the walk in that order. -/
def wpLead (P : Program) (ops : Array Oper) (rigid : Nat → Bool) (S : World → Prop) (Q : Act → World → Prop) : List (Nat × Oper) → Act → World → Prop
  | [], a, w => Q a w
  | (k, o) :: rest, a, w =>
    if rigid k then
      if Region.wanted o (yielded ops a.tmps) then o.wp P a w (fun a' w' => S w' ∧ wpLead P ops rigid S Q rest a' w') (onlyN fun _ _ _ => False) else wpLead P ops rigid S Q rest (a.put o.dst undef) w
    else ∃ v, YieldsIf P ops S o v a ∧ wpLead P ops rigid S Q rest (a.put o.dst v) w
theorem anyH_of_lead {rigid : Nat → Bool} {Q : Exit → Act → World → Prop} (hs : Region.noSelect ops = true) : ∀ (l : List (Nat × Oper)) (listed : Array Bool) (a : Act) (w : World), (∀ p ∈ l, ops[p.1]? = some p.2) →
    leadB md ops rigid (l.map (·.1)) listed = true → S w → wpLead P ops rigid S (fun a w => Q .normal a w) l a w → wpAnyH P md ops (onlyN Q) S l.length listed a w
  | [], _, _, _, _, hB, _, h => ⟨by simpa [leadB] using hB, rfl, h⟩
  | (k, o) :: l, listed, a, w, hl, hB, hS, h => by
    have h0 : ops[k]? = some o := hl (k, o) (by simp)
    simp only [List.map_cons, leadB, Bool.and_eq_true] at hB
    obtain ⟨hk, hB'⟩ := hB
    have hl' : ∀ p ∈ l, ops[p.1]? = some p.2 := fun p hp => hl p (by simp [hp])
    have ih := fun a' w' => anyH_of_lead (Q := Q) hs l (listed.setIfInBounds k true) a' w' hl' hB'
    unfold wpLead at h
    by_cases hlk : rigid k = true
    · simp only [hlk, if_true, decide_eq_true_eq] at hk h
      refine wpAnyH_all (fuel := l.length) hk (by simp) fun j hj => ?_
      obtain rfl : j = k := by simpa using hj
      unfold wpOp
      simp only [h0]
      split
      · rename_i hw
        simp only [hw, if_true] at h
        refine .inl ?_
        unfold Oper.wp at *
        generalize (execOp a.eval o).run P w = r at *
        cases r with
        | halt x w' =>
          cases x <;> simp only [Oper.upon] at h ⊢
          case panic v => cases h.1
        | ok n w' =>
          cases n <;> simp only [Oper.upon] at h ⊢
          case value v => exact ⟨h.1, ih _ _ h.1 h.2⟩
          case skip => exact ⟨h.1, ih _ _ h.1 h.2⟩
          case defer d => exact ⟨h.1, ih _ _ h.1 h.2⟩
          case enter f args =>
            refine Calls.mono h fun e w'' he => ?_
            cases e with
            | returned v => exact ⟨he.1, ih _ _ he.1 he.2⟩
            | panicked c => cases he.1
            | outgrown => exact (letsOut_onlyN he).elim
          case row row args => exact Rows.mono h fun u w'' he => ⟨he.1, ih _ _ he.1 he.2⟩
      · rename_i hw
        simp only [hw] at h
        exact ⟨hS, ih _ _ hS h⟩
    · have hlk' : rigid k = false := by simpa using hlk
      simp only [hlk', Bool.false_eq_true, if_false, Bool.and_eq_true] at hk h
      obtain ⟨hr, hf⟩ := hk
      obtain ⟨v, hy, hK⟩ := h
      refine wpAnyH_first h0 (Region.noSelect_spec hs) (fun c a w hq => by cases hq.1) l.length listed a w (Region.free_spec h0 hf) (by simpa using hr) hy hS (ih _ _ hS hK)
/-- the region. -/
theorem wp_region_lead {id : Nat} {Q : Exit → Act → World → Prop} {a : Act} {w : World} {l : List Oper} (S : World → Prop) (rigid ord : List Nat) (L : List (Nat × Oper)) (hm : P.follows .mixedOrders = true)
    (hs : Region.noSelect l.toArray = true) (hB : leadB .any l.toArray (fun k => rigid.contains k) ord (Array.replicate l.length false) = true) (hL : (ord.filterMap fun k => (l[k]?).map fun o => (k, o)) = L) (hn : L.map (·.1) = ord) (hlen : L.length = l.length) (hS : S w.drew)
    (h : wpLead P l.toArray (fun k => rigid.contains k) S (fun a w => Q .normal a w) L a w.drew) : (Code.region id l.toArray true).wp P Q a w := by
  have hmem : ∀ p ∈ L, l.toArray[p.1]? = some p.2 := by
    intro p hp
    rw [← hL, List.mem_filterMap] at hp
    obtain ⟨k, _, hk⟩ := hp
    cases hlk : l[k]? with
    | none => simp [hlk] at hk
    | some o =>
      simp [hlk] at hk
      subst hk
      simpa using hlk
  have h1 := anyH_of_lead (md := .any) (Q := Q) hs L (Array.replicate l.length false) a w.drew hmem (by rw [hn]; exact hB) hS h
  refine wp_region_any hm (wpAny_onlyN _ _ _ _ (wpAny_of_held (S := S) _ _ _ _ ?_))
  rw [hlen] at h1
  simpa using h1
/-- the worlds that meet S. -/
def Wits (S : World → Prop) : Type := Subtype S
def Wits.w {S : World → Prop} (g : Wits S) : World := g.1
theorem Wits.is {S : World → Prop} (g : Wits S) : S g.w := g.2
/-- an operation that is no call. -/
def noCall : Op → Bool
  | .move _ | .assign _ | .pick .. | .load .. | .binOp .. | .unOp .. | .convert .. | .fieldAddr .. | .field .. | .indexAddr .. | .index .. | .extract .. | .slice .. => true
  | _ => false
theorem bind_value {s : Sem Value} {w w' : World} {n : Next} (h : (do pure (Next.value (← s)) : Sem Next).run P w = .ok n w') : ∃ u, n = .value u := by
  rw [Sem.run_bind] at h
  generalize s.run P w = r at h
  cases r with
  | halt x w1 => simp at h
  | ok u w1 => simp [go_sem] at h; exact ⟨u, h.1.symm⟩
theorem noCall_value {o : Oper} {ρ : Operand → Value} {w w' : World} {n : Next} (hp : noCall o.op = true) (h : (execOp ρ o).run P w = .ok n w') : ∃ u, n = .value u := by
  unfold execOp at h
  cases ho : o.op <;> simp only [ho, noCall, Bool.false_eq_true] at hp h
  case move x => simp [go_sem] at h; exact ⟨_, h.1.symm⟩
  case assign x => simp [go_sem] at h; exact ⟨_, h.1.symm⟩
  case pick c a b =>
    rw [Sem.run_bind] at h
    generalize Sem.run P (asBool (ρ c)) w = r at h
    cases r with
    | halt x w1 => simp at h
    | ok u w1 => simp [go_sem] at h; exact ⟨_, h.1.symm⟩
  all_goals exact bind_value h
theorem yieldsIf_of_quiet {o : Oper} {a : Act} {v : Value} {C : World → Prop} (hp : noCall o.op = true) (hw : Region.wanted o (yielded ops a.tmps) = true) (hSC : ∀ w, S w → C w) (h : ∀ w, C w → o.quietAt P a C w v) : YieldsIf P ops S o v a := by
  refine .inl ⟨hw, fun w hS => ?_⟩
  have h1 := h w (hSC w hS)
  unfold Oper.quietAt at h1
  generalize hr : (execOp a.eval o).run P w = r at *
  cases r with
  | halt x w' => exact h1.elim
  | ok n w' =>
    obtain ⟨u, rfl⟩ := noCall_value hp hr
    obtain ⟨rfl, rfl⟩ := h1
    rfl
/-- a stretch of free operations, by the kit's quiet walk. -/
theorem lead_quiet {rigid : Nat → Bool} {Q : Act → World → Prop} {w : World} {rest : List (Nat × Oper)} {C : World → Prop} (hSC : ∀ w, S w → C w) : ∀ (l : List (Nat × Oper)) (a : Act), (l.all fun p => !rigid p.1 && noCall p.2.op) = true →
    wpQuiet P ops C (fun a' => wpLead P ops rigid S Q rest a' w) (l.map (·.2)) a → wpLead P ops rigid S Q (l ++ rest) a w
  | [], _, _, h => h
  | (k, o) :: l, a, hl, h => by
    simp only [List.all_cons, Bool.and_eq_true, Bool.not_eq_true'] at hl
    show wpLead P ops rigid S Q ((k, o) :: (l ++ rest)) a w
    unfold wpLead
    simp only [hl.1.1, Bool.false_eq_true, if_false]
    rw [List.map_cons] at h
    unfold wpQuiet at h
    split at h
    · rename_i hw
      obtain ⟨v, hv, hk⟩ := h
      exact ⟨v, yieldsIf_of_quiet hl.1.2 hw hSC hv, lead_quiet hSC l _ hl.2 hk⟩
    · rename_i hw
      exact ⟨undef, .inr ⟨by simpa using hw, rfl⟩, lead_quiet hSC l _ hl.2 h⟩
theorem lead_quiet_n {rigid : Nat → Bool} {Q : Act → World → Prop} {w : World} {L : List (Nat × Oper)} {a : Act} (n : Nat) (hl : ((L.take n).all fun p => !rigid p.1 && noCall p.2.op) = true)
    (hS : S w) (h : Nonempty (Wits S) → wpQuiet P ops (fun w' => ∃ g : Wits S, w' = g.w) (fun a' => wpLead P ops rigid S Q (L.drop n) a' w) ((L.take n).map (·.2)) a) : wpLead P ops rigid S Q L a w := by
  have := lead_quiet (S := S) (rest := L.drop n) (fun w hS => ⟨⟨w, hS⟩, rfl⟩) (L.take n) a hl (h ⟨⟨w, hS⟩⟩)
  rwa [List.take_append_drop] at this
theorem lead_nil {rigid : Nat → Bool} {Q : Act → World → Prop} {a : Act} {w : World} (h : Q a w) : wpLead P ops rigid S Q [] a w := h
/-- a stretch of rigid operations, by the walk of a list; nothing is asked of the worlds. -/
theorem lead_list {rigid : Nat → Bool} {Q : Act → World → Prop} {rest : List (Nat × Oper)} : ∀ (l : List (Nat × Oper)) (a : Act) (w : World), (l.all fun p => rigid p.1) = true →
    wpList P ops (onlyN fun _ a' w' => wpLead P ops rigid (fun _ => True) Q rest a' w') (l.map (·.2)) a w → wpLead P ops rigid (fun _ => True) Q (l ++ rest) a w
  | [], _, _, _, h => h.2
  | (k, o) :: l, a, w, hl, h => by
    simp only [List.all_cons, Bool.and_eq_true] at hl
    show wpLead P ops rigid (fun _ => True) Q ((k, o) :: (l ++ rest)) a w
    unfold wpLead
    simp only [hl.1, if_true]
    rw [List.map_cons] at h
    unfold wpList at h
    split
    · rename_i hw
      simp only [hw, if_true] at h
      rcases h with h | ⟨_, h⟩
      · have ih := fun a w => lead_list (Q := Q) (rest := rest) l a w hl.2
        unfold Oper.wp at *
        generalize (execOp a.eval o).run P w = r at *
        cases r with
        | halt x w' =>
          cases x <;> simp only [Oper.upon] at h ⊢
          case panic v => cases h.1
        | ok n w' =>
          cases n <;> simp only [Oper.upon] at h ⊢
          case value v => exact ⟨trivial, ih _ _ h⟩
          case skip => exact ⟨trivial, ih _ _ h⟩
          case defer d => exact ⟨trivial, ih _ _ h⟩
          case enter f args =>
            refine Calls.mono h fun e w'' he => ?_
            cases e with
            | returned v => exact ⟨trivial, ih _ _ he⟩
            | panicked c => cases he.1
            | outgrown => exact (letsOut_onlyN he).elim
          case row row args => exact Rows.mono h fun u w'' he => ⟨trivial, ih _ _ he⟩
      · exact (letsOut_onlyN h).elim
    · rename_i hw
      simp only [hw] at h
      exact lead_list l _ _ hl.2 h
theorem lead_list_n {rigid : Nat → Bool} {Q : Act → World → Prop} {w : World} {L : List (Nat × Oper)} {a : Act} (n : Nat) (hl : ((L.take n).all fun p => rigid p.1) = true)
    (h : wpList P ops (onlyN fun _ a' w' => wpLead P ops rigid (fun _ => True) Q (L.drop n) a' w') ((L.take n).map (·.2)) a w) : wpLead P ops rigid (fun _ => True) Q L a w := by
  have := lead_list (rest := L.drop n) (L.take n) a w hl h
  rwa [List.take_append_drop] at this
/-- one rigid operation; behind it S is shown anew. -/
theorem lead_one {rigid : Nat → Bool} {Q : Act → World → Prop} {k : Nat} {o : Oper} {rest : List (Nat × Oper)} {a : Act} {w : World} (hl : rigid k = true)
    (h : wpList P ops (onlyN fun _ a' w' => S w' ∧ wpLead P ops rigid S Q rest a' w') [o] a w) (hS : S w) : wpLead P ops rigid S Q ((k, o) :: rest) a w := by
  unfold wpLead
  simp only [hl, if_true]
  unfold wpList at h
  split
  · rename_i hw
    simp only [hw, if_true] at h
    rcases h with h | ⟨_, h⟩
    · unfold Oper.wp at *
      generalize (execOp a.eval o).run P w = r at *
      cases r with
      | halt x w' =>
        cases x <;> simp only [Oper.upon] at h ⊢
        case panic v => cases h.1
      | ok n w' =>
        cases n <;> simp only [Oper.upon] at h ⊢
        case value v => exact h.2
        case skip => exact h.2
        case defer d => exact h.2
        case enter f args =>
          refine Calls.mono h fun e w'' he => ?_
          cases e with
          | returned v => exact he.2
          | panicked c => cases he.1
          | outgrown => exact (letsOut_onlyN he).elim
        case row row args => exact Rows.mono h fun u w'' he => he.2
    · exact (letsOut_onlyN h).elim
  · rename_i hw
    simp only [hw] at h
    exact h.2.2
theorem still_of_quiet {w : World} {Q : Act → Prop} : ∀ (l : List Oper) (a : Act), (l.all fun o => noCall o.op) = true → wpQuiet P ops (fun w' => ∃ _ : Unit, w' = w) Q l a → wpStill P ops w Q l a
  | [], _, _, h => h
  | o :: l, a, hl, h => by
    simp only [List.all_cons, Bool.and_eq_true] at hl
    unfold wpQuiet at h
    unfold wpStill
    split
    · rename_i hw
      simp only [hw, if_true] at h
      obtain ⟨v, hv, hk⟩ := h
      have h1 := hv w ⟨(), rfl⟩
      unfold Oper.quietAt at h1
      unfold Oper.still
      generalize hr : (execOp a.eval o).run P w = r at *
      cases r with
      | halt x w' => exact h1.elim
      | ok n w' =>
        obtain ⟨u, rfl⟩ := noCall_value hl.1 hr
        obtain ⟨rfl, rfl⟩ := h1
        exact ⟨rfl, still_of_quiet l _ hl.2 hk⟩
    · rename_i hw
      simp only [hw] at h
      exact still_of_quiet l _ hl.2 h
/-- a region whose last operations stand in a forced order: the others by the kit's quiet walk, in one world. -/
theorem region_tail_q {id : Nat} {Q : Exit → Act → World → Prop} {a : Act} {w : World} {l : List Oper} (n : Nat) (hm : P.follows .mixedOrders = true) (hB : Region.lexTailB .any l.toArray n = true) (hl : ((l.take n).all fun o => noCall o.op) = true)
    (h : wpQuiet P l.toArray (fun w' => ∃ _ : Unit, w' = w.drew) (fun a' => wpList P l.toArray Q (l.drop n) a' w.drew) (l.take n) a) : (Code.region id l.toArray true).wp P Q a w :=
  wp_region_still_tail n hm hB (still_of_quiet _ _ hl h)
end
end Go.Proofs.Ytndmmhljphlhjaa
