/- A region that draws its order, in which one operation may come at any time ahead of another one: the walk parts at each operation that stands alone but for it. -/
import Derived.Test.YtndmmhljphlhjaaLead
namespace Go.Proofs.Ytndmmhljphlhjaa
set_option linter.unusedVariables false
set_option linter.unusedSimpArgs false
open Go.RowKit
section
variable {P : Program} {ops : Array Oper} {md : Region.Mode} {S : World → Prop}
/-- the order of ours, while f is still to come; stop waits for it. -/
def floatB (md : Region.Mode) (ops : Array Oper) (rigid : Nat → Bool) (f stop : Nat) : List Nat → Array Bool → Bool
  | [], _ => false
  | k :: rest, listed =>
    if rigid k then
      !(Region.ready md ops listed).isEmpty && (Region.ready md ops listed).all (fun j => j == f || (j == k && k != stop)) && leadB md ops rigid (k :: rest) (listed.setIfInBounds f true)
        && (k == stop || floatB md ops rigid f stop rest (listed.setIfInBounds k true))
    else (Region.ready md ops listed).contains k && Region.free md ops listed k && floatB md ops rigid f stop rest (listed.setIfInBounds k true)
def wpFloat (P : Program) (ops : Array Oper) (rigid : Nat → Bool) (S : World → Prop) (Q : Act → World → Prop) (f : Oper) (stop : Nat) : List (Nat × Oper) → Act → World → Prop
  | [], _, _ => False
  | (k, o) :: rest, a, w =>
    if rigid k then
      f.wp P a w (fun a' w' => S w' ∧ wpLead P ops rigid S Q ((k, o) :: rest) a' w') (onlyN fun _ _ _ => False) ∧
        (k = stop ∨ (if Region.wanted o (yielded ops a.tmps) then o.wp P a w (fun a' w' => S w' ∧ wpFloat P ops rigid S Q f stop rest a' w') (onlyN fun _ _ _ => False) else wpFloat P ops rigid S Q f stop rest (a.put o.dst undef) w))
    else ∃ v, YieldsIf P ops S o v a ∧ wpFloat P ops rigid S Q f stop rest (a.put o.dst v) w
theorem oper_onlyN {Q : Exit → Act → World → Prop} {o : Oper} {a : Act} {w : World} {K K' : Act → World → Prop} (hk : ∀ a w, K a w → K' a w) (h : o.wp P a w K (onlyN fun _ _ _ => False)) : o.wp P a w K' (onlyN Q) := by
  unfold Oper.wp at *
  generalize (execOp a.eval o).run P w = r at *
  cases r with
  | halt x w' =>
    cases x <;> simp only [Oper.upon] at h ⊢
    case panic v => cases h.1
  | ok n w' =>
    cases n <;> simp only [Oper.upon] at h ⊢
    case value v => exact hk _ _ h
    case skip => exact hk _ _ h
    case defer d => exact hk _ _ h
    case enter f args =>
      refine Calls.mono h fun e w'' he => ?_
      cases e with
      | returned v => exact hk _ _ he
      | panicked c => cases he.1
      | outgrown => exact (letsOut_onlyN he).elim
    case row row args => exact Rows.mono h fun u w'' he => hk _ _ he
theorem anyH_of_float {rigid : Nat → Bool} {Q : Exit → Act → World → Prop} {f : Nat} {fo : Oper} {stop : Nat} (hs : Region.noSelect ops = true) (hf : ops[f]? = some fo) (hfg : fo.guard = none) : ∀ (l : List (Nat × Oper)) (listed : Array Bool) (a : Act) (w : World), (∀ p ∈ l, ops[p.1]? = some p.2) →
    floatB md ops rigid f stop (l.map (·.1)) listed = true → S w → wpFloat P ops rigid S (fun a w => Q .normal a w) fo stop l a w → wpAnyH P md ops (onlyN Q) S (l.length + 1) listed a w
  | [], _, _, _, _, hB, _, _ => by simp [floatB] at hB
  | (k, o) :: l, listed, a, w, hl, hB, hS, h => by
    have h0 : ops[k]? = some o := hl (k, o) (by simp)
    have hl' : ∀ p ∈ l, ops[p.1]? = some p.2 := fun p hp => hl p (by simp [hp])
    simp only [List.map_cons] at hB
    unfold floatB at hB
    unfold wpFloat at h
    by_cases hlk : rigid k = true
    · simp only [hlk, if_true, Bool.and_eq_true, Bool.not_eq_true', Bool.or_eq_true] at hB
      simp only [hlk, if_true] at h
      obtain ⟨⟨⟨he, hall⟩, hlead⟩, hrest⟩ := hB
      obtain ⟨h1, h2⟩ := h
      refine wpAnyH_all (fuel := l.length + 1) rfl (by intro e; rw [e] at he; simp at he) fun j hj => ?_
      have hj' := List.all_eq_true.1 hall j hj
      simp only [Bool.or_eq_true, beq_iff_eq, Bool.and_eq_true] at hj'
      by_cases hjf : j = f
      · subst hjf
        unfold wpOp
        simp only [hf]
        rw [if_pos (by unfold Region.wanted; rw [hfg])]
        refine .inl (oper_onlyN (fun a' w' hk => ⟨hk.1, ?_⟩) h1)
        exact anyH_of_lead (Q := Q) hs ((k, o) :: l) (listed.setIfInBounds j true) a' w' hl hlead hk.1 hk.2
      · have hjk : j = k ∧ ¬ k = stop := by
          rcases hj' with hj' | ⟨h3, h4⟩
          · exact absurd hj' hjf
          · exact ⟨h3, by simpa using h4⟩
        obtain ⟨rfl, hns⟩ := hjk
        have h2 := h2.resolve_left hns
        have hrest := hrest.resolve_left (by simpa using hns)
        have ih := fun a' w' => anyH_of_float (Q := Q) hs hf hfg l (listed.setIfInBounds j true) a' w' hl' hrest
        unfold wpOp
        simp only [h0]
        split
        · rename_i hw
          simp only [hw, if_true] at h2
          exact .inl (oper_onlyN (fun a' w' hk => ⟨hk.1, ih _ _ hk.1 hk.2⟩) h2)
        · rename_i hw
          simp only [hw] at h2
          exact ⟨hS, ih _ _ hS h2⟩
    · have hlk' : rigid k = false := by simpa using hlk
      simp only [hlk', Bool.false_eq_true, if_false, Bool.and_eq_true] at hB h
      obtain ⟨⟨hr, hfr⟩, hB'⟩ := hB
      obtain ⟨v, hy, hK⟩ := h
      refine wpAnyH_first h0 (Region.noSelect_spec hs) (fun c a w hq => by cases hq.1) (l.length + 1) listed a w (Region.free_spec h0 hfr) (by simpa using hr) hy hS ?_
      exact anyH_of_float (Q := Q) hs hf hfg l (listed.setIfInBounds k true) _ w hl' hB' hS hK
/-- the region: ord is the order of all but f. -/
theorem wp_region_float {id : Nat} {Q : Exit → Act → World → Prop} {a : Act} {w : World} {l : List Oper} (S : World → Prop) (rigid ord : List Nat) (f stop : Nat) (fo : Oper) (L : List (Nat × Oper)) (hm : P.follows .mixedOrders = true)
    (hs : Region.noSelect l.toArray = true) (hB : floatB .any l.toArray (fun k => rigid.contains k) f stop ord (Array.replicate l.length false) = true) (hL : (ord.filterMap fun k => (l[k]?).map fun o => (k, o)) = L) (hn : L.map (·.1) = ord) (hlen : L.length + 1 = l.length) (hf : l[f]? = some fo) (hfg : fo.guard = none) (hS : S w.drew)
    (h : wpFloat P l.toArray (fun k => rigid.contains k) S (fun a w => Q .normal a w) fo stop L a w.drew) : (Code.region id l.toArray true).wp P Q a w := by
  have hmem : ∀ p ∈ L, l.toArray[p.1]? = some p.2 := by
    intro p hp
    rw [← hL, List.mem_filterMap] at hp
    obtain ⟨k, _, hk⟩ := hp
    cases hlk : l[k]? with
    | none => simp [hlk] at hk
    | some o =>
      simp [hlk] at hk
      subst hk
      simpa using hlk
  have h1 := anyH_of_float (md := .any) (Q := Q) hs (by simpa using hf) hfg L (Array.replicate l.length false) a w.drew hmem (by rw [hn]; exact hB) hS h
  refine wp_region_any hm (wpAny_onlyN _ _ _ _ (wpAny_of_held (S := S) _ _ _ _ ?_))
  rw [hlen] at h1
  simpa using h1
/-- a stretch of free operations, by the kit's quiet walk. -/
theorem float_quiet {rigid : Nat → Bool} {Q : Act → World → Prop} {fo : Oper} {stop : Nat} {w : World} {rest : List (Nat × Oper)} {C : World → Prop} (hSC : ∀ w, S w → C w) : ∀ (l : List (Nat × Oper)) (a : Act), (l.all fun p => !rigid p.1 && noCall p.2.op) = true →
    wpQuiet P ops C (fun a' => wpFloat P ops rigid S Q fo stop rest a' w) (l.map (·.2)) a → wpFloat P ops rigid S Q fo stop (l ++ rest) a w
  | [], _, _, h => h
  | (k, o) :: l, a, hl, h => by
    simp only [List.all_cons, Bool.and_eq_true, Bool.not_eq_true'] at hl
    show wpFloat P ops rigid S Q fo stop ((k, o) :: (l ++ rest)) a w
    unfold wpFloat
    simp only [hl.1.1, Bool.false_eq_true, if_false]
    rw [List.map_cons] at h
    unfold wpQuiet at h
    split at h
    · rename_i hw
      obtain ⟨v, hv, hk⟩ := h
      exact ⟨v, yieldsIf_of_quiet hl.1.2 hw hSC hv, float_quiet hSC l _ hl.2 hk⟩
    · rename_i hw
      exact ⟨undef, .inr ⟨by simpa using hw, rfl⟩, float_quiet hSC l _ hl.2 h⟩
theorem float_quiet_n {rigid : Nat → Bool} {Q : Act → World → Prop} {fo : Oper} {stop : Nat} {w : World} {L : List (Nat × Oper)} {a : Act} (n : Nat) (hl : ((L.take n).all fun p => !rigid p.1 && noCall p.2.op) = true)
    (hS : S w) (h : Nonempty (Wits S) → wpQuiet P ops (fun w' => ∃ g : Wits S, w' = g.w) (fun a' => wpFloat P ops rigid S Q fo stop (L.drop n) a' w) ((L.take n).map (·.2)) a) : wpFloat P ops rigid S Q fo stop L a w := by
  have := float_quiet (S := S) (rest := L.drop n) (fun w hS => ⟨⟨w, hS⟩, rfl⟩) (L.take n) a hl (h ⟨⟨w, hS⟩⟩)
  rwa [List.take_append_drop] at this
theorem wp_of_list {o : Oper} {a : Act} {w : World} {K : Act → World → Prop} (hg : o.guard = none) (h : wpList P ops (onlyN fun _ a' w' => K a' w') [o] a w) : o.wp P a w K (onlyN fun _ _ _ => False) := by
  unfold wpList at h
  rw [if_pos (by unfold Region.wanted; rw [hg])] at h
  rcases h with h | ⟨_, h⟩
  · unfold Oper.wp at *
    generalize (execOp a.eval o).run P w = r at *
    cases r with
    | halt x w' =>
      cases x <;> simp only [Oper.upon] at h ⊢
      case panic v => cases h.1
    | ok n w' =>
      cases n <;> simp only [Oper.upon] at h ⊢
      case value v => exact h.2
      case skip => exact h.2
      case defer d => exact h.2
      case enter f args =>
        refine Calls.mono h fun e w'' he => ?_
        cases e with
        | returned v => exact he.2
        | panicked c => cases he.1
        | outgrown => exact (letsOut_onlyN he).elim
      case row row args => exact Rows.mono h fun u w'' he => he.2
  · exact (letsOut_onlyN h).elim
/-- one that stands alone but for f: f now, or it. -/
theorem float_one {rigid : Nat → Bool} {Q : Act → World → Prop} {fo : Oper} {stop k : Nat} {o : Oper} {rest : List (Nat × Oper)} {a : Act} {w : World} (hl : rigid k = true) (hfg : fo.guard = none) (hg : o.guard = none)
    (h1 : wpList P ops (onlyN fun _ a' w' => S w' ∧ wpLead P ops rigid S Q ((k, o) :: rest) a' w') [fo] a w)
    (h2 : wpList P ops (onlyN fun _ a' w' => S w' ∧ wpFloat P ops rigid S Q fo stop rest a' w') [o] a w) : wpFloat P ops rigid S Q fo stop ((k, o) :: rest) a w := by
  unfold wpFloat
  simp only [hl, if_true]
  refine ⟨wp_of_list hfg h1, .inr ?_⟩
  rw [if_pos (by unfold Region.wanted; rw [hg])]
  exact wp_of_list hg h2
/-- the one that waits for f. -/
theorem float_stop {rigid : Nat → Bool} {Q : Act → World → Prop} {fo : Oper} {k : Nat} {o : Oper} {rest : List (Nat × Oper)} {a : Act} {w : World} (hl : rigid k = true) (hfg : fo.guard = none)
    (h1 : wpList P ops (onlyN fun _ a' w' => S w' ∧ wpLead P ops rigid S Q ((k, o) :: rest) a' w') [fo] a w) : wpFloat P ops rigid S Q fo k ((k, o) :: rest) a w := by
  unfold wpFloat
  simp only [hl, if_true]
  exact ⟨wp_of_list hfg h1, .inl trivial⟩
end
end Go.Proofs.Ytndmmhljphlhjaa
