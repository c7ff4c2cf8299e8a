import Derived.OrdersHeld
import Derived.BigCall
import Derived.StillTail
import Derived.ArgAppend
import Derived.Laws.Cover3
import Derived.Deep.OwnRows
import Derived.Test.YtaoagbnhomjkpaaGreatZTopRates00
import Derived.Test.YtaoagbnhomjkpaaGreatZTopRates01
import Derived.Test.YtaoagbnhomjkpaaGreatZTopRates02
/- The walks of the reference of the layer 'sums'. -/
namespace Go.Proofs.YtaoagbnhomjkpaaGreat
set_option linter.unusedVariables false
set_option linter.unusedSimpArgs false
open Go.RowKit
set_option maxRecDepth 100000
set_option maxHeartbeats 4000000
theorem own_empty (w : World) : OwnB (w.alloc (.cells #[] 5)) w.heap.size (.slice (some ⟨w.heap.size, 0, none⟩) 0 0) 0 [] :=
  ⟨own_made (n := 0) #[] (Nat.le_refl _) (by unfold maxLen; omega) rfl, fun k => by simp⟩
theorem BytesAt.set {w : World} {g len q : Nat} {zs : List Int} {x : Int} (h : BytesAt w (some ⟨g, 0, none⟩) len zs) (hq : q < len) (x0 : 0 ≤ x) (x1 : x < 256) : BytesAt (w.setCell ⟨g, q, none⟩ (.int .u8 x)) (some ⟨g, 0, none⟩) len (zs.set q x) := by
  have hl := h.length
  obtain ⟨b, off, e, hb, hc⟩ := h.cells (by omega)
  injection e with e; injection e with e1 e2; subst e1; subst e2
  refine ⟨by simpa using hl, h.most, fun k => ?_, fun _ => ⟨g, 0, rfl, by simpa using hb, fun k hk => ?_⟩⟩
  · by_cases hkq : k = q
    · subst hkq; rw [List.getElem?_set_self (by omega)]; exact ⟨x0, x1⟩
    · rw [List.getElem?_set_ne (by omega)]; exact h.byte k
  · by_cases hkq : k = q
    · subst hkq
      rw [List.getElem?_set_self (by omega), Nat.zero_add]
      have := hc k hk
      rw [Nat.zero_add] at this
      exact cell_set this
    · rw [List.getElem?_set_ne (by omega), Nat.zero_add]
      have := hc k hk
      rw [Nat.zero_add] at this
      exact cell_off (by omega) this
theorem shr128 (m : Nat) (hm : m < 8) : ∀ w, (Op.shift BinOp.shr IntKind.u8 128 IntKind.i64 (m : Int)).run Tryz.prog w = .ok (.int .u8 (128 / 2 ^ m)) w := by
  have hmc : m = 0 ∨ m = 1 ∨ m = 2 ∨ m = 3 ∨ m = 4 ∨ m = 5 ∨ m = 6 ∨ m = 7 := by omega
  rcases hmc with rfl | rfl | rfl | rfl | rfl | rfl | rfl | rfl <;> intro w <;> rfl
theorem xor8_bd {z : Int} {m : Nat} (h0 : 0 ≤ z) (h1 : z < 256) : 0 ≤ bits .xor .u8 z (128 / 2 ^ m) ∧ bits .xor .u8 z (128 / 2 ^ m) < 256 := by
  obtain ⟨a, rfl⟩ := Int.eq_ofNat_of_zero_le h0
  have h2 : 128 / 2 ^ m ≤ 128 := Nat.div_le_self _ _
  have e : (128 / 2 ^ m : Int) = ((128 / 2 ^ m : Nat) : Int) := by push_cast; rfl
  have e2 := u8_xor_nat a (128 / 2 ^ m) (by omega) (by omega)
  have hb : a ^^^ (128 / 2 ^ m) < 2 ^ 8 := Nat.xor_lt_two_pow (by omega) (by omega)
  rw [e]
  show 0 ≤ bits .xor .u8 (a : Int) _ ∧ bits .xor .u8 (a : Int) _ < 256
  rw [e2]
  omega
end Go.Proofs.YtaoagbnhomjkpaaGreat

/- A region that draws its order: one walk in an order of ours. What yields its value in every world that meets S may be taken first; what does more must be the only one that may come up; behind it S is shown anew. -/
namespace Go.Proofs.YtaoagbnhomjkpaaGreat
set_option linter.unusedVariables false
set_option linter.unusedSimpArgs false
open Go.RowKit
section
variable {P : Program} {ops : Array Oper} {md : Region.Mode} {S : World → Prop}
def onlyN (Q : Exit → Act → World → Prop) : Exit → Act → World → Prop := fun e a w => e = .normal ∧ Q .normal a w
theorem letsOut_onlyN {Q : Exit → Act → World → Prop} (h : LetsOut (onlyN Q)) : False := by
  obtain ⟨_, _, h, _⟩ := h
  cases h
theorem wp_onlyN {Q : Exit → Act → World → Prop} {o : Oper} {a : Act} {w : World} {K K' : Act → World → Prop} (hk : ∀ a w, K a w → K' a w) (h : o.wp P a w K (onlyN Q)) : o.wp P a w K' Q := by
  unfold Oper.wp at *
  generalize (execOp a.eval o).run P w = r at *
  cases r with
  | halt x w' =>
    cases x <;> simp only [Oper.upon] at h ⊢
    case panic v => cases h.1
  | ok n w' =>
    cases n <;> simp only [Oper.upon] at h ⊢
    case value v => exact hk _ _ h
    case skip => exact hk _ _ h
    case defer d => exact hk _ _ h
    case enter f args =>
      refine Calls.mono h fun e w'' he => ?_
      cases e with
      | returned v => exact hk _ _ he
      | panicked c => cases he.1
      | outgrown => exact (letsOut_onlyN he).elim
    case row row args => exact Rows.mono h fun u w'' he => hk _ _ he
theorem wpAny_onlyN {Q : Exit → Act → World → Prop} : ∀ (fuel : Nat) (listed : Array Bool) (a : Act) (w : World), wpAny P md ops (onlyN Q) fuel listed a w → wpAny P md ops Q fuel listed a w
  | 0, _, _, _, h => ⟨h.1, h.2.2⟩
  | fuel + 1, _, _, _, h => ⟨fun h0 => (h.1 h0).2, fun i hi => by
      have h1 := h.2 i hi
      unfold wpOp at h1 ⊢
      split
      · rename_i ho; simp only [ho] at h1; exact wpAny_onlyN fuel _ _ _ h1
      · rename_i o ho
        simp only [ho] at h1
        split
        · rename_i hw
          simp only [hw, if_true] at h1
          rcases h1 with h1 | ⟨_, h1⟩
          · exact .inl (wp_onlyN (fun a w => wpAny_onlyN fuel _ a w) h1)
          · exact (letsOut_onlyN h1).elim
        · rename_i hw; simp only [hw] at h1; exact wpAny_onlyN fuel _ _ _ h1⟩
/-- the order of ours: is it one, may each free operation be taken first, and does each rigid one stand alone? -/
def leadB (md : Region.Mode) (ops : Array Oper) (rigid : Nat → Bool) : List Nat → Array Bool → Bool
  | [], listed => (Region.ready md ops listed).isEmpty
  | k :: rest, listed =>
    (if rigid k then decide (Region.ready md ops listed = [k])
      else (Region.ready md ops listed).contains k && Region.free md ops listed k) && leadB md ops rigid rest (listed.setIfInBounds k true)
/-- the walk in that order. -/
def wpLead (P : Program) (ops : Array Oper) (rigid : Nat → Bool) (S : World → Prop) (Q : Act → World → Prop) : List (Nat × Oper) → Act → World → Prop
  | [], a, w => Q a w
  | (k, o) :: rest, a, w =>
    if rigid k then
      if Region.wanted o (yielded ops a.tmps) then o.wp P a w (fun a' w' => S w' ∧ wpLead P ops rigid S Q rest a' w') (onlyN fun _ _ _ => False) else wpLead P ops rigid S Q rest (a.put o.dst undef) w
    else ∃ v, YieldsIf P ops S o v a ∧ wpLead P ops rigid S Q rest (a.put o.dst v) w
theorem anyH_of_lead {rigid : Nat → Bool} {Q : Exit → Act → World → Prop} (hs : Region.noSelect ops = true) : ∀ (l : List (Nat × Oper)) (listed : Array Bool) (a : Act) (w : World), (∀ p ∈ l, ops[p.1]? = some p.2) →
    leadB md ops rigid (l.map (·.1)) listed = true → S w → wpLead P ops rigid S (fun a w => Q .normal a w) l a w → wpAnyH P md ops (onlyN Q) S l.length listed a w
  | [], _, _, _, _, hB, _, h => ⟨by simpa [leadB] using hB, rfl, h⟩
  | (k, o) :: l, listed, a, w, hl, hB, hS, h => by
    have h0 : ops[k]? = some o := hl (k, o) (by simp)
    simp only [List.map_cons, leadB, Bool.and_eq_true] at hB
    obtain ⟨hk, hB'⟩ := hB
    have hl' : ∀ p ∈ l, ops[p.1]? = some p.2 := fun p hp => hl p (by simp [hp])
    have ih := fun a' w' => anyH_of_lead (Q := Q) hs l (listed.setIfInBounds k true) a' w' hl' hB'
    unfold wpLead at h
    by_cases hlk : rigid k = true
    · simp only [hlk, if_true, decide_eq_true_eq] at hk h
      refine wpAnyH_all (fuel := l.length) hk (by simp) fun j hj => ?_
      obtain rfl : j = k := by simpa using hj
      unfold wpOp
      simp only [h0]
      split
      · rename_i hw
        simp only [hw, if_true] at h
        refine .inl ?_
        unfold Oper.wp at *
        generalize (execOp a.eval o).run P w = r at *
        cases r with
        | halt x w' =>
          cases x <;> simp only [Oper.upon] at h ⊢
          case panic v => cases h.1
        | ok n w' =>
          cases n <;> simp only [Oper.upon] at h ⊢
          case value v => exact ⟨h.1, ih _ _ h.1 h.2⟩
          case skip => exact ⟨h.1, ih _ _ h.1 h.2⟩
          case defer d => exact ⟨h.1, ih _ _ h.1 h.2⟩
          case enter f args =>
            refine Calls.mono h fun e w'' he => ?_
            cases e with
            | returned v => exact ⟨he.1, ih _ _ he.1 he.2⟩
            | panicked c => cases he.1
            | outgrown => exact (letsOut_onlyN he).elim
          case row row args => exact Rows.mono h fun u w'' he => ⟨he.1, ih _ _ he.1 he.2⟩
      · rename_i hw
        simp only [hw] at h
        exact ⟨hS, ih _ _ hS h⟩
    · have hlk' : rigid k = false := by simpa using hlk
      simp only [hlk', Bool.false_eq_true, if_false, Bool.and_eq_true] at hk h
      obtain ⟨hr, hf⟩ := hk
      obtain ⟨v, hy, hK⟩ := h
      refine wpAnyH_first h0 (Region.noSelect_spec hs) (fun c a w hq => by cases hq.1) l.length listed a w (Region.free_spec h0 hf) (by simpa using hr) hy hS (ih _ _ hS hK)
/-- the region. -/
theorem wp_region_lead {id : Nat} {Q : Exit → Act → World → Prop} {a : Act} {w : World} {l : List Oper} (S : World → Prop) (rigid ord : List Nat) (L : List (Nat × Oper)) (hm : P.follows .mixedOrders = true)
    (hs : Region.noSelect l.toArray = true) (hB : leadB .any l.toArray (fun k => rigid.contains k) ord (Array.replicate l.length false) = true) (hL : (ord.filterMap fun k => (l[k]?).map fun o => (k, o)) = L) (hn : L.map (·.1) = ord) (hlen : L.length = l.length) (hS : S w.drew)
    (h : wpLead P l.toArray (fun k => rigid.contains k) S (fun a w => Q .normal a w) L a w.drew) : (Code.region id l.toArray true).wp P Q a w := by
  have hmem : ∀ p ∈ L, l.toArray[p.1]? = some p.2 := by
    intro p hp
    rw [← hL, List.mem_filterMap] at hp
    obtain ⟨k, _, hk⟩ := hp
    cases hlk : l[k]? with
    | none => simp [hlk] at hk
    | some o =>
      simp [hlk] at hk
      subst hk
      simpa using hlk
  have h1 := anyH_of_lead (md := .any) (Q := Q) hs L (Array.replicate l.length false) a w.drew hmem (by rw [hn]; exact hB) hS h
  refine wp_region_any hm (wpAny_onlyN _ _ _ _ (wpAny_of_held (S := S) _ _ _ _ ?_))
  rw [hlen] at h1
  simpa using h1
/-- the worlds that meet S. -/
def Wits (S : World → Prop) : Type := Subtype S
def Wits.w {S : World → Prop} (g : Wits S) : World := g.1
theorem Wits.is {S : World → Prop} (g : Wits S) : S g.w := g.2
/-- an operation that is no call. -/
def noCall : Op → Bool
  | .move _ | .assign _ | .pick .. | .load .. | .binOp .. | .unOp .. | .convert .. | .fieldAddr .. | .field .. | .indexAddr .. | .index .. | .extract .. | .slice .. => true
  | _ => false
theorem bind_value {s : Sem Value} {w w' : World} {n : Next} (h : (do pure (Next.value (← s)) : Sem Next).run P w = .ok n w') : ∃ u, n = .value u := by
  rw [Sem.run_bind] at h
  generalize s.run P w = r at h
  cases r with
  | halt x w1 => simp at h
  | ok u w1 => simp [go_sem] at h; exact ⟨u, h.1.symm⟩
theorem noCall_value {o : Oper} {ρ : Operand → Value} {w w' : World} {n : Next} (hp : noCall o.op = true) (h : (execOp ρ o).run P w = .ok n w') : ∃ u, n = .value u := by
  unfold execOp at h
  cases ho : o.op <;> simp only [ho, noCall, Bool.false_eq_true] at hp h
  case move x => simp [go_sem] at h; exact ⟨_, h.1.symm⟩
  case assign x => simp [go_sem] at h; exact ⟨_, h.1.symm⟩
  case pick c a b =>
    rw [Sem.run_bind] at h
    generalize Sem.run P (asBool (ρ c)) w = r at h
    cases r with
    | halt x w1 => simp at h
    | ok u w1 => simp [go_sem] at h; exact ⟨_, h.1.symm⟩
  all_goals exact bind_value h
theorem yieldsIf_of_quiet {o : Oper} {a : Act} {v : Value} {C : World → Prop} (hp : noCall o.op = true) (hw : Region.wanted o (yielded ops a.tmps) = true) (hSC : ∀ w, S w → C w) (h : ∀ w, C w → o.quietAt P a C w v) : YieldsIf P ops S o v a := by
  refine .inl ⟨hw, fun w hS => ?_⟩
  have h1 := h w (hSC w hS)
  unfold Oper.quietAt at h1
  generalize hr : (execOp a.eval o).run P w = r at *
  cases r with
  | halt x w' => exact h1.elim
  | ok n w' =>
    obtain ⟨u, rfl⟩ := noCall_value hp hr
    obtain ⟨rfl, rfl⟩ := h1
    rfl
/-- a stretch of free operations, by the kit's quiet walk. -/
theorem lead_quiet {rigid : Nat → Bool} {Q : Act → World → Prop} {w : World} {rest : List (Nat × Oper)} {C : World → Prop} (hSC : ∀ w, S w → C w) : ∀ (l : List (Nat × Oper)) (a : Act), (l.all fun p => !rigid p.1 && noCall p.2.op) = true →
    wpQuiet P ops C (fun a' => wpLead P ops rigid S Q rest a' w) (l.map (·.2)) a → wpLead P ops rigid S Q (l ++ rest) a w
  | [], _, _, h => h
  | (k, o) :: l, a, hl, h => by
    simp only [List.all_cons, Bool.and_eq_true, Bool.not_eq_true'] at hl
    show wpLead P ops rigid S Q ((k, o) :: (l ++ rest)) a w
    unfold wpLead
    simp only [hl.1.1, Bool.false_eq_true, if_false]
    rw [List.map_cons] at h
    unfold wpQuiet at h
    split at h
    · rename_i hw
      obtain ⟨v, hv, hk⟩ := h
      exact ⟨v, yieldsIf_of_quiet hl.1.2 hw hSC hv, lead_quiet hSC l _ hl.2 hk⟩
    · rename_i hw
      exact ⟨undef, .inr ⟨by simpa using hw, rfl⟩, lead_quiet hSC l _ hl.2 h⟩
theorem lead_quiet_n {rigid : Nat → Bool} {Q : Act → World → Prop} {w : World} {L : List (Nat × Oper)} {a : Act} (n : Nat) (hl : ((L.take n).all fun p => !rigid p.1 && noCall p.2.op) = true)
    (hS : S w) (h : Nonempty (Wits S) → wpQuiet P ops (fun w' => ∃ g : Wits S, w' = g.w) (fun a' => wpLead P ops rigid S Q (L.drop n) a' w) ((L.take n).map (·.2)) a) : wpLead P ops rigid S Q L a w := by
  have := lead_quiet (S := S) (rest := L.drop n) (fun w hS => ⟨⟨w, hS⟩, rfl⟩) (L.take n) a hl (h ⟨⟨w, hS⟩⟩)
  rwa [List.take_append_drop] at this
theorem lead_nil {rigid : Nat → Bool} {Q : Act → World → Prop} {a : Act} {w : World} (h : Q a w) : wpLead P ops rigid S Q [] a w := h
/-- a stretch of rigid operations, by the walk of a list; nothing is asked of the worlds. -/
theorem lead_list {rigid : Nat → Bool} {Q : Act → World → Prop} {rest : List (Nat × Oper)} : ∀ (l : List (Nat × Oper)) (a : Act) (w : World), (l.all fun p => rigid p.1) = true →
    wpList P ops (onlyN fun _ a' w' => wpLead P ops rigid (fun _ => True) Q rest a' w') (l.map (·.2)) a w → wpLead P ops rigid (fun _ => True) Q (l ++ rest) a w
  | [], _, _, _, h => h.2
  | (k, o) :: l, a, w, hl, h => by
    simp only [List.all_cons, Bool.and_eq_true] at hl
    show wpLead P ops rigid (fun _ => True) Q ((k, o) :: (l ++ rest)) a w
    unfold wpLead
    simp only [hl.1, if_true]
    rw [List.map_cons] at h
    unfold wpList at h
    split
    · rename_i hw
      simp only [hw, if_true] at h
      rcases h with h | ⟨_, h⟩
      · have ih := fun a w => lead_list (Q := Q) (rest := rest) l a w hl.2
        unfold Oper.wp at *
        generalize (execOp a.eval o).run P w = r at *
        cases r with
        | halt x w' =>
          cases x <;> simp only [Oper.upon] at h ⊢
          case panic v => cases h.1
        | ok n w' =>
          cases n <;> simp only [Oper.upon] at h ⊢
          case value v => exact ⟨trivial, ih _ _ h⟩
          case skip => exact ⟨trivial, ih _ _ h⟩
          case defer d => exact ⟨trivial, ih _ _ h⟩
          case enter f args =>
            refine Calls.mono h fun e w'' he => ?_
            cases e with
            | returned v => exact ⟨trivial, ih _ _ he⟩
            | panicked c => cases he.1
            | outgrown => exact (letsOut_onlyN he).elim
          case row row args => exact Rows.mono h fun u w'' he => ⟨trivial, ih _ _ he⟩
      · exact (letsOut_onlyN h).elim
    · rename_i hw
      simp only [hw] at h
      exact lead_list l _ _ hl.2 h
theorem lead_list_n {rigid : Nat → Bool} {Q : Act → World → Prop} {w : World} {L : List (Nat × Oper)} {a : Act} (n : Nat) (hl : ((L.take n).all fun p => rigid p.1) = true)
    (h : wpList P ops (onlyN fun _ a' w' => wpLead P ops rigid (fun _ => True) Q (L.drop n) a' w') ((L.take n).map (·.2)) a w) : wpLead P ops rigid (fun _ => True) Q L a w := by
  have := lead_list (rest := L.drop n) (L.take n) a w hl h
  rwa [List.take_append_drop] at this
/-- one rigid operation; behind it S is shown anew. -/
theorem lead_one {rigid : Nat → Bool} {Q : Act → World → Prop} {k : Nat} {o : Oper} {rest : List (Nat × Oper)} {a : Act} {w : World} (hl : rigid k = true)
    (h : wpList P ops (onlyN fun _ a' w' => S w' ∧ wpLead P ops rigid S Q rest a' w') [o] a w) (hS : S w) : wpLead P ops rigid S Q ((k, o) :: rest) a w := by
  unfold wpLead
  simp only [hl, if_true]
  unfold wpList at h
  split
  · rename_i hw
    simp only [hw, if_true] at h
    rcases h with h | ⟨_, h⟩
    · unfold Oper.wp at *
      generalize (execOp a.eval o).run P w = r at *
      cases r with
      | halt x w' =>
        cases x <;> simp only [Oper.upon] at h ⊢
        case panic v => cases h.1
      | ok n w' =>
        cases n <;> simp only [Oper.upon] at h ⊢
        case value v => exact h.2
        case skip => exact h.2
        case defer d => exact h.2
        case enter f args =>
          refine Calls.mono h fun e w'' he => ?_
          cases e with
          | returned v => exact he.2
          | panicked c => cases he.1
          | outgrown => exact (letsOut_onlyN he).elim
        case row row args => exact Rows.mono h fun u w'' he => he.2
    · exact (letsOut_onlyN h).elim
  · rename_i hw
    simp only [hw] at h
    exact h.2.2
theorem still_of_quiet {w : World} {Q : Act → Prop} : ∀ (l : List Oper) (a : Act), (l.all fun o => noCall o.op) = true → wpQuiet P ops (fun w' => ∃ _ : Unit, w' = w) Q l a → wpStill P ops w Q l a
  | [], _, _, h => h
  | o :: l, a, hl, h => by
    simp only [List.all_cons, Bool.and_eq_true] at hl
    unfold wpQuiet at h
    unfold wpStill
    split
    · rename_i hw
      simp only [hw, if_true] at h
      obtain ⟨v, hv, hk⟩ := h
      have h1 := hv w ⟨(), rfl⟩
      unfold Oper.quietAt at h1
      unfold Oper.still
      generalize hr : (execOp a.eval o).run P w = r at *
      cases r with
      | halt x w' => exact h1.elim
      | ok n w' =>
        obtain ⟨u, rfl⟩ := noCall_value hl.1 hr
        obtain ⟨rfl, rfl⟩ := h1
        exact ⟨rfl, still_of_quiet l _ hl.2 hk⟩
    · rename_i hw
      simp only [hw] at h
      exact still_of_quiet l _ hl.2 h
/-- a region whose last operations stand in a forced order: the others by the kit's quiet walk, in one world. -/
theorem region_tail_q {id : Nat} {Q : Exit → Act → World → Prop} {a : Act} {w : World} {l : List Oper} (n : Nat) (hm : P.follows .mixedOrders = true) (hB : Region.lexTailB .any l.toArray n = true) (hl : ((l.take n).all fun o => noCall o.op) = true)
    (h : wpQuiet P l.toArray (fun w' => ∃ _ : Unit, w' = w.drew) (fun a' => wpList P l.toArray Q (l.drop n) a' w.drew) (l.take n) a) : (Code.region id l.toArray true).wp P Q a w :=
  wp_region_still_tail n hm hB (still_of_quiet _ _ hl h)
end
end Go.Proofs.YtaoagbnhomjkpaaGreat

/- The walks of the layer 'hec'. -/
namespace Go.Proofs.YtaoagbnhomjkpaaGreat
set_option linter.unusedVariables false
set_option linter.unusedSimpArgs false
open Go.RowKit
set_option maxRecDepth 100000
set_option maxHeartbeats 4000000
theorem arr_four (a : Option Addr) (c : Nat) (w : World) : (Instr.arrayAt 127 (.slice a 4 c)).run Tryz.prog w = .ok (.pointer a) w := run_arrayAt w _ _ _ a 4 c Tryz.underlying127 (by decide)
theorem drop_any (b : Nat) (r d : Int) (c : Bool) (w : World) (h : RecAt w b r d c) (d0 : 0 ≤ d) (d1 : d ≤ 1000000) :
    Calls Tryz.prog 73 #[.pointer (some ⟨b, 0, none⟩)] w fun e w' => e = .returned (.tuple #[.agg #[.int .u8 0, .int .u8 0, .int .u8 0, .int .u8 0], .bool false]) ∧ RecAt w' b r (d + 1) c ∧ Chg b w w' := by
  have hb := h.lt
  obtain ⟨c0, c1, c2, hf⟩ := h.cells
  have hf1 := hf 1
  go_enter Tryz.func73, Tryz.ntmps73
  go_wp2
  (try simp only [Exit.inBlock, Exit.then])
  have hne : b ≠ w.heap.size := by omega
  refine bodyPost_ret (results_ct rfl _ _ rfl (load_four ?_ ?_ ?_ ?_)) rfl ⟨rfl, ?_, ?_⟩
  · (repeat (first | (with_reducible assumption) | ((with_reducible refine cell_top ?_ rfl); first | (with_reducible rfl) | (simp; done)) | (with_reducible apply cell_drew) | (with_reducible apply cell_drewN) | (with_reducible apply cell_set) | ((with_reducible apply cell_off); focus (decide)) | ((with_reducible apply cell_beside); focus (first | omega | (simp; done) | (simp; omega))) | ((with_reducible apply cell_under); focus (first | (simp; done) | (simp; omega)))))
  · (repeat (first | (with_reducible assumption) | ((with_reducible refine cell_top ?_ rfl); first | (with_reducible rfl) | (simp; done)) | (with_reducible apply cell_drew) | (with_reducible apply cell_drewN) | (with_reducible apply cell_set) | ((with_reducible apply cell_off); focus (decide)) | ((with_reducible apply cell_beside); focus (first | omega | (simp; done) | (simp; omega))) | ((with_reducible apply cell_under); focus (first | (simp; done) | (simp; omega)))))
  · (repeat (first | (with_reducible assumption) | ((with_reducible refine cell_top ?_ rfl); first | (with_reducible rfl) | (simp; done)) | (with_reducible apply cell_drew) | (with_reducible apply cell_drewN) | (with_reducible apply cell_set) | ((with_reducible apply cell_off); focus (decide)) | ((with_reducible apply cell_beside); focus (first | omega | (simp; done) | (simp; omega))) | ((with_reducible apply cell_under); focus (first | (simp; done) | (simp; omega)))))
  · (repeat (first | (with_reducible assumption) | ((with_reducible refine cell_top ?_ rfl); first | (with_reducible rfl) | (simp; done)) | (with_reducible apply cell_drew) | (with_reducible apply cell_drewN) | (with_reducible apply cell_set) | ((with_reducible apply cell_off); focus (decide)) | ((with_reducible apply cell_beside); focus (first | omega | (simp; done) | (simp; omega))) | ((with_reducible apply cell_under); focus (first | (simp; done) | (simp; omega)))))
  · (repeat (first | (with_reducible assumption) | (with_reducible apply RecAt.set0) | (with_reducible apply RecAt.set1) | (with_reducible apply RecAt.set2) | ((with_reducible refine RecAt.beside ?_ ?_); (rotate_left; focus (first | omega | (simp; omega)))) | (with_reducible refine RecAt.alloc ?_ _) | (with_reducible refine RecAt.drewN ?_ _) | (with_reducible refine RecAt.drew ?_) | (with_reducible refine RecAt.below ?_ (by assumption))))
  · (repeat (first | (with_reducible exact Chg.refl _ _) | (with_reducible assumption) | (with_reducible refine Chg.setCell ?_ _ _) | ((with_reducible refine Chg.setNew ?_ ?_ _ _); (rotate_left; focus (first | omega | (simp; omega)))) | (with_reducible refine Chg.alloc ?_ _) | (with_reducible refine Chg.drewN ?_ _) | (with_reducible refine Chg.drew ?_) | (with_reducible refine Chg.then ?_ (by assumption))))
theorem agg_take {F : List Int} (h : F.length = 5) : agg4 (F.take 4) = .agg #[.int .u8 (F[0]?.getD 0), .int .u8 (F[1]?.getD 0), .int .u8 (F[2]?.getD 0), .int .u8 (F[3]?.getD 0)] := by
  match F, h with
  | [a, b, c, d, e], _ => rfl
theorem take_zero (b : Nat) (r d : Int) (c : Bool) (x y z u v : Int) (w : World) (h : RecAt w b r d c) (hv : ∀ q ∈ [x, y, z, u, v], 0 ≤ q ∧ q < 256) (hs : synd [x, y, z, u, v] = 0) :
    Calls Tryz.prog 46 #[.pointer (some ⟨b, 0, none⟩), .agg #[.int .u8 x, .int .u8 y, .int .u8 z, .int .u8 u, .int .u8 v]] w fun e w' => e = .returned (.tuple #[.agg #[.int .u8 x, .int .u8 y, .int .u8 z, .int .u8 u], .bool true]) ∧ RecAt w' b r d false ∧ Chg b w w' := by
  have hb := h.lt
  obtain ⟨c0, c1, c2, hf⟩ := h.cells
  have hf2 := hf 2
  have ha4 := arr_four
  have n1 : ¬ b = w.heap.size := by omega
  have n2 : ¬ b = w.heap.size + 1 := by omega
  go_enter Tryz.func46, Tryz.ntmps46
  go_wp2_with (first | (go_at_call 71; (with_reducible refine (synd_at (five_at ?h0 (cell_under ?h1 (cell_top rfl rfl)) (cell_under ?h1 (cell_top rfl rfl)) (cell_under ?h1 (cell_top rfl rfl)) (cell_under ?h1 (cell_top rfl rfl)) (cell_under ?h1 (cell_top rfl rfl)) hv) (by decide) (by decide)).mono ?_); (case h0 => (simp; omega)); (case h1 => (simp; done)); rw [hs]; rintro e w1 ⟨rfl, hb_w1⟩; have hs_w1 := hb_w1.size; (try simp at hs_w1); have R1 : RecAt w1 b r d c := (by (repeat (first | (with_reducible assumption) | (with_reducible apply RecAt.set0) | (with_reducible apply RecAt.set1) | (with_reducible apply RecAt.set2) | ((with_reducible refine RecAt.beside ?_ ?_); (rotate_left; focus (first | omega | (simp; omega)))) | (with_reducible refine RecAt.alloc ?_ _) | (with_reducible refine RecAt.drewN ?_ _) | (with_reducible refine RecAt.drew ?_) | (with_reducible refine RecAt.below ?_ (by assumption))))); obtain ⟨k0, k1, k2, kf⟩ := R1.cells; have kf0 := kf 0; have kf2 := kf 2; have q0 : w1.cell? ⟨w.heap.size, 0, none⟩ = some (.int .u8 x) := (by (repeat (first | (with_reducible assumption) | ((with_reducible refine cell_top ?_ rfl); first | (with_reducible rfl) | (simp; done)) | (with_reducible apply cell_drew) | (with_reducible apply cell_drewN) | ((with_reducible apply cell_keep); focus (with_reducible assumption)) | (with_reducible refine cell_keep (Aft.below _) ?_) | (with_reducible apply cell_set) | ((with_reducible apply cell_off); focus (decide)) | ((with_reducible apply cell_beside); focus (first | omega | (simp; done) | (simp; omega))) | ((with_reducible apply cell_under); focus (first | omega | (simp; done) | (simp; omega)))))); have q1 : w1.cell? ⟨w.heap.size, 1, none⟩ = some (.int .u8 y) := (by (repeat (first | (with_reducible assumption) | ((with_reducible refine cell_top ?_ rfl); first | (with_reducible rfl) | (simp; done)) | (with_reducible apply cell_drew) | (with_reducible apply cell_drewN) | ((with_reducible apply cell_keep); focus (with_reducible assumption)) | (with_reducible refine cell_keep (Aft.below _) ?_) | (with_reducible apply cell_set) | ((with_reducible apply cell_off); focus (decide)) | ((with_reducible apply cell_beside); focus (first | omega | (simp; done) | (simp; omega))) | ((with_reducible apply cell_under); focus (first | omega | (simp; done) | (simp; omega)))))); have q2 : w1.cell? ⟨w.heap.size, 2, none⟩ = some (.int .u8 z) := (by (repeat (first | (with_reducible assumption) | ((with_reducible refine cell_top ?_ rfl); first | (with_reducible rfl) | (simp; done)) | (with_reducible apply cell_drew) | (with_reducible apply cell_drewN) | ((with_reducible apply cell_keep); focus (with_reducible assumption)) | (with_reducible refine cell_keep (Aft.below _) ?_) | (with_reducible apply cell_set) | ((with_reducible apply cell_off); focus (decide)) | ((with_reducible apply cell_beside); focus (first | omega | (simp; done) | (simp; omega))) | ((with_reducible apply cell_under); focus (first | omega | (simp; done) | (simp; omega)))))); have q3 : w1.cell? ⟨w.heap.size, 3, none⟩ = some (.int .u8 u) := (by (repeat (first | (with_reducible assumption) | ((with_reducible refine cell_top ?_ rfl); first | (with_reducible rfl) | (simp; done)) | (with_reducible apply cell_drew) | (with_reducible apply cell_drewN) | ((with_reducible apply cell_keep); focus (with_reducible assumption)) | (with_reducible refine cell_keep (Aft.below _) ?_) | (with_reducible apply cell_set) | ((with_reducible apply cell_off); focus (decide)) | ((with_reducible apply cell_beside); focus (first | omega | (simp; done) | (simp; omega))) | ((with_reducible apply cell_under); focus (first | omega | (simp; done) | (simp; omega)))))); have q4 : w1.cell? ⟨w.heap.size, 4, none⟩ = some (.int .u8 v) := (by (repeat (first | (with_reducible assumption) | ((with_reducible refine cell_top ?_ rfl); first | (with_reducible rfl) | (simp; done)) | (with_reducible apply cell_drew) | (with_reducible apply cell_drewN) | ((with_reducible apply cell_keep); focus (with_reducible assumption)) | (with_reducible refine cell_keep (Aft.below _) ?_) | (with_reducible apply cell_set) | ((with_reducible apply cell_off); focus (decide)) | ((with_reducible apply cell_beside); focus (first | omega | (simp; done) | (simp; omega))) | ((with_reducible apply cell_under); focus (first | omega | (simp; done) | (simp; omega)))))); have p0 : w1.cell? ⟨w.heap.size + 1, 0, none⟩ = some (.int .u8 0) := (by (repeat (first | (with_reducible assumption) | ((with_reducible refine cell_top ?_ rfl); first | (with_reducible rfl) | (simp; done)) | (with_reducible apply cell_drew) | (with_reducible apply cell_drewN) | ((with_reducible apply cell_keep); focus (with_reducible assumption)) | (with_reducible refine cell_keep (Aft.below _) ?_) | (with_reducible apply cell_set) | ((with_reducible apply cell_off); focus (decide)) | ((with_reducible apply cell_beside); focus (first | omega | (simp; done) | (simp; omega))) | ((with_reducible apply cell_under); focus (first | omega | (simp; done) | (simp; omega)))))); have p1 : w1.cell? ⟨w.heap.size + 1, 1, none⟩ = some (.int .u8 0) := (by (repeat (first | (with_reducible assumption) | ((with_reducible refine cell_top ?_ rfl); first | (with_reducible rfl) | (simp; done)) | (with_reducible apply cell_drew) | (with_reducible apply cell_drewN) | ((with_reducible apply cell_keep); focus (with_reducible assumption)) | (with_reducible refine cell_keep (Aft.below _) ?_) | (with_reducible apply cell_set) | ((with_reducible apply cell_off); focus (decide)) | ((with_reducible apply cell_beside); focus (first | omega | (simp; done) | (simp; omega))) | ((with_reducible apply cell_under); focus (first | omega | (simp; done) | (simp; omega)))))); have p2 : w1.cell? ⟨w.heap.size + 1, 2, none⟩ = some (.int .u8 0) := (by (repeat (first | (with_reducible assumption) | ((with_reducible refine cell_top ?_ rfl); first | (with_reducible rfl) | (simp; done)) | (with_reducible apply cell_drew) | (with_reducible apply cell_drewN) | ((with_reducible apply cell_keep); focus (with_reducible assumption)) | (with_reducible refine cell_keep (Aft.below _) ?_) | (with_reducible apply cell_set) | ((with_reducible apply cell_off); focus (decide)) | ((with_reducible apply cell_beside); focus (first | omega | (simp; done) | (simp; omega))) | ((with_reducible apply cell_under); focus (first | omega | (simp; done) | (simp; omega)))))); have p3 : w1.cell? ⟨w.heap.size + 1, 3, none⟩ = some (.int .u8 0) := (by (repeat (first | (with_reducible assumption) | ((with_reducible refine cell_top ?_ rfl); first | (with_reducible rfl) | (simp; done)) | (with_reducible apply cell_drew) | (with_reducible apply cell_drewN) | ((with_reducible apply cell_keep); focus (with_reducible assumption)) | (with_reducible refine cell_keep (Aft.below _) ?_) | (with_reducible apply cell_set) | ((with_reducible apply cell_off); focus (decide)) | ((with_reducible apply cell_beside); focus (first | omega | (simp; done) | (simp; omega))) | ((with_reducible apply cell_under); focus (first | omega | (simp; done) | (simp; omega)))))); have pf : ∀ o, w1.frozen? ⟨w.heap.size + 1, o, none⟩ = false := (fun o => (hb_w1.frozen (p := ⟨w.heap.size + 1, o, none⟩) (by simp)).trans (frozen_top (by simp))); have pf0 := pf 0; have pf1 := pf 1; have pf2 := pf 2; have pf3 := pf 3; have pg : ∀ o, w1.frozen? ⟨w.heap.size, o, none⟩ = false := (fun o => (hb_w1.frozen (p := ⟨w.heap.size, o, none⟩) (by (simp; omega))).trans (by simp))))
  refine bodyPost_ret (results_ct rfl _ _ rfl (load_four ?_ ?_ ?_ ?_)) rfl ⟨rfl, ?_, ?_⟩
  · (repeat (first | (with_reducible assumption) | ((with_reducible refine cell_top ?_ rfl); first | (with_reducible rfl) | (simp; done)) | (with_reducible apply cell_drew) | (with_reducible apply cell_drewN) | (with_reducible apply cell_set) | ((with_reducible apply cell_off); focus (decide)) | ((with_reducible apply cell_beside); focus (first | omega | (simp; done) | (simp; omega))) | ((with_reducible apply cell_under); focus (first | (simp; done) | (simp; omega)))))
  · (repeat (first | (with_reducible assumption) | ((with_reducible refine cell_top ?_ rfl); first | (with_reducible rfl) | (simp; done)) | (with_reducible apply cell_drew) | (with_reducible apply cell_drewN) | (with_reducible apply cell_set) | ((with_reducible apply cell_off); focus (decide)) | ((with_reducible apply cell_beside); focus (first | omega | (simp; done) | (simp; omega))) | ((with_reducible apply cell_under); focus (first | (simp; done) | (simp; omega)))))
  · (repeat (first | (with_reducible assumption) | ((with_reducible refine cell_top ?_ rfl); first | (with_reducible rfl) | (simp; done)) | (with_reducible apply cell_drew) | (with_reducible apply cell_drewN) | (with_reducible apply cell_set) | ((with_reducible apply cell_off); focus (decide)) | ((with_reducible apply cell_beside); focus (first | omega | (simp; done) | (simp; omega))) | ((with_reducible apply cell_under); focus (first | (simp; done) | (simp; omega)))))
  · (repeat (first | (with_reducible assumption) | ((with_reducible refine cell_top ?_ rfl); first | (with_reducible rfl) | (simp; done)) | (with_reducible apply cell_drew) | (with_reducible apply cell_drewN) | (with_reducible apply cell_set) | ((with_reducible apply cell_off); focus (decide)) | ((with_reducible apply cell_beside); focus (first | omega | (simp; done) | (simp; omega))) | ((with_reducible apply cell_under); focus (first | (simp; done) | (simp; omega)))))
  · (repeat (first | (with_reducible assumption) | (with_reducible apply RecAt.set0) | (with_reducible apply RecAt.set1) | (with_reducible apply RecAt.set2) | ((with_reducible refine RecAt.beside ?_ ?_); (rotate_left; focus (first | omega | (simp; omega)))) | (with_reducible refine RecAt.alloc ?_ _) | (with_reducible refine RecAt.drewN ?_ _) | (with_reducible refine RecAt.drew ?_) | (with_reducible refine RecAt.below ?_ (by assumption))))
  · (repeat (first | (with_reducible exact Chg.refl _ _) | (with_reducible assumption) | (with_reducible refine Chg.setCell ?_ _ _) | ((with_reducible refine Chg.setNew ?_ ?_ _ _); (rotate_left; focus (first | omega | (simp; omega)))) | (with_reducible refine Chg.alloc ?_ _) | (with_reducible refine Chg.drewN ?_ _) | (with_reducible refine Chg.drew ?_) | (with_reducible refine Chg.then ?_ (by assumption))))
theorem take_fix (b : Nat) (r d : Int) (x y z u v : Int) (w : World) (s : Int) (k : Nat) (h : RecAt w b r d false) (r0 : 0 ≤ r) (r1 : r ≤ 1000000) (hv : ∀ q ∈ [x, y, z, u, v], 0 ≤ q ∧ q < 256) (hs : synd [x, y, z, u, v] = s) (hs0 : s ≠ 0) (hs1 : 0 ≤ s) (hs2 : s < 256) (hk : bitOf s = some k) :
    Calls Tryz.prog 46 #[.pointer (some ⟨b, 0, none⟩), .agg #[.int .u8 x, .int .u8 y, .int .u8 z, .int .u8 u, .int .u8 v]] w fun e w' => e = .returned (.tuple #[agg4 ((flipZ [x, y, z, u, v] k).take 4), .bool true]) ∧ RecAt w' b (r + 1) d true ∧ Chg b w w' := by
  obtain ⟨c, hc⟩ : ∃ c, c = false := ⟨_, rfl⟩
  rw [← hc] at h
  obtain ⟨F, hF⟩ : ∃ F, flipZ [x, y, z, u, v] k = F := ⟨_, rfl⟩
  have hF5 : F.length = 5 := by rw [← hF, flip_len]; rfl
  rw [hF, agg_take hF5]
  have hb := h.lt
  obtain ⟨c0, c1, c2, hf⟩ := h.cells
  have hf2 := hf 2
  have ha4 := arr_four
  have n1 : ¬ b = w.heap.size := by omega
  have n2 : ¬ b = w.heap.size + 1 := by omega
  have hk40 : k < 40 := (bitOf_some hk).1
  have hbv : bitV s = .tuple #[.int .i64 k, .bool true] := by unfold bitV; rw [hk]
  have he : (s == 0) = false := by simpa using hs0
  have hne : (s != 0) = true := by simpa using hs0
  clear hk
  go_enter Tryz.func46, Tryz.ntmps46
  go_wp2_with (first | (go_at_call 71; (with_reducible refine (synd_at (five_at ?h0 (cell_under ?h1 (cell_top rfl rfl)) (cell_under ?h1 (cell_top rfl rfl)) (cell_under ?h1 (cell_top rfl rfl)) (cell_under ?h1 (cell_top rfl rfl)) (cell_under ?h1 (cell_top rfl rfl)) hv) (by decide) (by decide)).mono ?_); (case h0 => (simp; omega)); (case h1 => (simp; done)); rw [hs]; rintro e w1 ⟨rfl, hb_w1⟩; have hs_w1 := hb_w1.size; (try simp at hs_w1); subst hc; have R1 : RecAt w1 b r d false := (by (repeat (first | (with_reducible assumption) | (with_reducible apply RecAt.set0) | (with_reducible apply RecAt.set1) | (with_reducible apply RecAt.set2) | ((with_reducible refine RecAt.beside ?_ ?_); (rotate_left; focus (first | omega | (simp; omega)))) | (with_reducible refine RecAt.alloc ?_ _) | (with_reducible refine RecAt.drewN ?_ _) | (with_reducible refine RecAt.drew ?_) | (with_reducible refine RecAt.below ?_ (by assumption))))); obtain ⟨k0, k1, k2, kf⟩ := R1.cells; have kf0 := kf 0; have kf2 := kf 2; have q0 : w1.cell? ⟨w.heap.size, 0, none⟩ = some (.int .u8 x) := (by (repeat (first | (with_reducible assumption) | ((with_reducible refine cell_top ?_ rfl); first | (with_reducible rfl) | (simp; done)) | (with_reducible apply cell_drew) | (with_reducible apply cell_drewN) | ((with_reducible apply cell_keep); focus (with_reducible assumption)) | (with_reducible refine cell_keep (Aft.below _) ?_) | (with_reducible apply cell_set) | ((with_reducible apply cell_off); focus (decide)) | ((with_reducible apply cell_beside); focus (first | omega | (simp; done) | (simp; omega))) | ((with_reducible apply cell_under); focus (first | omega | (simp; done) | (simp; omega)))))); have q1 : w1.cell? ⟨w.heap.size, 1, none⟩ = some (.int .u8 y) := (by (repeat (first | (with_reducible assumption) | ((with_reducible refine cell_top ?_ rfl); first | (with_reducible rfl) | (simp; done)) | (with_reducible apply cell_drew) | (with_reducible apply cell_drewN) | ((with_reducible apply cell_keep); focus (with_reducible assumption)) | (with_reducible refine cell_keep (Aft.below _) ?_) | (with_reducible apply cell_set) | ((with_reducible apply cell_off); focus (decide)) | ((with_reducible apply cell_beside); focus (first | omega | (simp; done) | (simp; omega))) | ((with_reducible apply cell_under); focus (first | omega | (simp; done) | (simp; omega)))))); have q2 : w1.cell? ⟨w.heap.size, 2, none⟩ = some (.int .u8 z) := (by (repeat (first | (with_reducible assumption) | ((with_reducible refine cell_top ?_ rfl); first | (with_reducible rfl) | (simp; done)) | (with_reducible apply cell_drew) | (with_reducible apply cell_drewN) | ((with_reducible apply cell_keep); focus (with_reducible assumption)) | (with_reducible refine cell_keep (Aft.below _) ?_) | (with_reducible apply cell_set) | ((with_reducible apply cell_off); focus (decide)) | ((with_reducible apply cell_beside); focus (first | omega | (simp; done) | (simp; omega))) | ((with_reducible apply cell_under); focus (first | omega | (simp; done) | (simp; omega)))))); have q3 : w1.cell? ⟨w.heap.size, 3, none⟩ = some (.int .u8 u) := (by (repeat (first | (with_reducible assumption) | ((with_reducible refine cell_top ?_ rfl); first | (with_reducible rfl) | (simp; done)) | (with_reducible apply cell_drew) | (with_reducible apply cell_drewN) | ((with_reducible apply cell_keep); focus (with_reducible assumption)) | (with_reducible refine cell_keep (Aft.below _) ?_) | (with_reducible apply cell_set) | ((with_reducible apply cell_off); focus (decide)) | ((with_reducible apply cell_beside); focus (first | omega | (simp; done) | (simp; omega))) | ((with_reducible apply cell_under); focus (first | omega | (simp; done) | (simp; omega)))))); have q4 : w1.cell? ⟨w.heap.size, 4, none⟩ = some (.int .u8 v) := (by (repeat (first | (with_reducible assumption) | ((with_reducible refine cell_top ?_ rfl); first | (with_reducible rfl) | (simp; done)) | (with_reducible apply cell_drew) | (with_reducible apply cell_drewN) | ((with_reducible apply cell_keep); focus (with_reducible assumption)) | (with_reducible refine cell_keep (Aft.below _) ?_) | (with_reducible apply cell_set) | ((with_reducible apply cell_off); focus (decide)) | ((with_reducible apply cell_beside); focus (first | omega | (simp; done) | (simp; omega))) | ((with_reducible apply cell_under); focus (first | omega | (simp; done) | (simp; omega)))))); have p0 : w1.cell? ⟨w.heap.size + 1, 0, none⟩ = some (.int .u8 0) := (by (repeat (first | (with_reducible assumption) | ((with_reducible refine cell_top ?_ rfl); first | (with_reducible rfl) | (simp; done)) | (with_reducible apply cell_drew) | (with_reducible apply cell_drewN) | ((with_reducible apply cell_keep); focus (with_reducible assumption)) | (with_reducible refine cell_keep (Aft.below _) ?_) | (with_reducible apply cell_set) | ((with_reducible apply cell_off); focus (decide)) | ((with_reducible apply cell_beside); focus (first | omega | (simp; done) | (simp; omega))) | ((with_reducible apply cell_under); focus (first | omega | (simp; done) | (simp; omega)))))); have p1 : w1.cell? ⟨w.heap.size + 1, 1, none⟩ = some (.int .u8 0) := (by (repeat (first | (with_reducible assumption) | ((with_reducible refine cell_top ?_ rfl); first | (with_reducible rfl) | (simp; done)) | (with_reducible apply cell_drew) | (with_reducible apply cell_drewN) | ((with_reducible apply cell_keep); focus (with_reducible assumption)) | (with_reducible refine cell_keep (Aft.below _) ?_) | (with_reducible apply cell_set) | ((with_reducible apply cell_off); focus (decide)) | ((with_reducible apply cell_beside); focus (first | omega | (simp; done) | (simp; omega))) | ((with_reducible apply cell_under); focus (first | omega | (simp; done) | (simp; omega)))))); have p2 : w1.cell? ⟨w.heap.size + 1, 2, none⟩ = some (.int .u8 0) := (by (repeat (first | (with_reducible assumption) | ((with_reducible refine cell_top ?_ rfl); first | (with_reducible rfl) | (simp; done)) | (with_reducible apply cell_drew) | (with_reducible apply cell_drewN) | ((with_reducible apply cell_keep); focus (with_reducible assumption)) | (with_reducible refine cell_keep (Aft.below _) ?_) | (with_reducible apply cell_set) | ((with_reducible apply cell_off); focus (decide)) | ((with_reducible apply cell_beside); focus (first | omega | (simp; done) | (simp; omega))) | ((with_reducible apply cell_under); focus (first | omega | (simp; done) | (simp; omega)))))); have p3 : w1.cell? ⟨w.heap.size + 1, 3, none⟩ = some (.int .u8 0) := (by (repeat (first | (with_reducible assumption) | ((with_reducible refine cell_top ?_ rfl); first | (with_reducible rfl) | (simp; done)) | (with_reducible apply cell_drew) | (with_reducible apply cell_drewN) | ((with_reducible apply cell_keep); focus (with_reducible assumption)) | (with_reducible refine cell_keep (Aft.below _) ?_) | (with_reducible apply cell_set) | ((with_reducible apply cell_off); focus (decide)) | ((with_reducible apply cell_beside); focus (first | omega | (simp; done) | (simp; omega))) | ((with_reducible apply cell_under); focus (first | omega | (simp; done) | (simp; omega)))))); have pf : ∀ o, w1.frozen? ⟨w.heap.size + 1, o, none⟩ = false := (fun o => (hb_w1.frozen (p := ⟨w.heap.size + 1, o, none⟩) (by simp)).trans (frozen_top (by simp))); have pf0 := pf 0; have pf1 := pf 1; have pf2 := pf 2; have pf3 := pf 3; have pg : ∀ o, w1.frozen? ⟨w.heap.size, o, none⟩ = false := (fun o => (hb_w1.frozen (p := ⟨w.heap.size, o, none⟩) (by (simp; omega))).trans (by simp))) | (go_at_call 72; (with_reducible refine (bit_any s _ hs1 hs2).mono ?_); rw [hbv]; rintro e w2 ⟨rfl, hb_w2⟩; have hs_w2 := hb_w2.size; (try simp at hs_w2); have R2 : RecAt w2 b r d true := (by (repeat (first | (with_reducible assumption) | (with_reducible apply RecAt.set0) | (with_reducible apply RecAt.set1) | (with_reducible apply RecAt.set2) | ((with_reducible refine RecAt.beside ?_ ?_); (rotate_left; focus (first | omega | (simp; omega)))) | (with_reducible refine RecAt.alloc ?_ _) | (with_reducible refine RecAt.drewN ?_ _) | (with_reducible refine RecAt.drew ?_) | (with_reducible refine RecAt.below ?_ (by assumption))))); obtain ⟨j0, j1, j2, jf⟩ := R2.cells; have jf0 := jf 0))
  have hpn : b ≠ w.heap.size := n1
  have hpn2 : b ≠ w.heap.size + 1 := n2
  have B3 : BytesAt (w2.setCell ⟨b, 0, none⟩ (.int .i64 (r + 1))) (some ⟨w.heap.size, 0, none⟩) 5 [x, y, z, u, v] := five_at (by simp; omega) (by (repeat (first | (with_reducible assumption) | ((with_reducible refine cell_top ?_ rfl); first | (with_reducible rfl) | (simp; done)) | (with_reducible apply cell_drew) | (with_reducible apply cell_drewN) | ((with_reducible apply cell_keep); focus (with_reducible assumption)) | (with_reducible refine cell_keep (Aft.below _) ?_) | (with_reducible apply cell_set) | ((with_reducible apply cell_off); focus (decide)) | ((with_reducible apply cell_beside); focus (first | omega | (simp; done) | (simp; omega))) | ((with_reducible apply cell_under); focus (first | omega | (simp; done) | (simp; omega)))))) (by (repeat (first | (with_reducible assumption) | ((with_reducible refine cell_top ?_ rfl); first | (with_reducible rfl) | (simp; done)) | (with_reducible apply cell_drew) | (with_reducible apply cell_drewN) | ((with_reducible apply cell_keep); focus (with_reducible assumption)) | (with_reducible refine cell_keep (Aft.below _) ?_) | (with_reducible apply cell_set) | ((with_reducible apply cell_off); focus (decide)) | ((with_reducible apply cell_beside); focus (first | omega | (simp; done) | (simp; omega))) | ((with_reducible apply cell_under); focus (first | omega | (simp; done) | (simp; omega)))))) (by (repeat (first | (with_reducible assumption) | ((with_reducible refine cell_top ?_ rfl); first | (with_reducible rfl) | (simp; done)) | (with_reducible apply cell_drew) | (with_reducible apply cell_drewN) | ((with_reducible apply cell_keep); focus (with_reducible assumption)) | (with_reducible refine cell_keep (Aft.below _) ?_) | (with_reducible apply cell_set) | ((with_reducible apply cell_off); focus (decide)) | ((with_reducible apply cell_beside); focus (first | omega | (simp; done) | (simp; omega))) | ((with_reducible apply cell_under); focus (first | omega | (simp; done) | (simp; omega)))))) (by (repeat (first | (with_reducible assumption) | ((with_reducible refine cell_top ?_ rfl); first | (with_reducible rfl) | (simp; done)) | (with_reducible apply cell_drew) | (with_reducible apply cell_drewN) | ((with_reducible apply cell_keep); focus (with_reducible assumption)) | (with_reducible refine cell_keep (Aft.below _) ?_) | (with_reducible apply cell_set) | ((with_reducible apply cell_off); focus (decide)) | ((with_reducible apply cell_beside); focus (first | omega | (simp; done) | (simp; omega))) | ((with_reducible apply cell_under); focus (first | omega | (simp; done) | (simp; omega)))))) (by (repeat (first | (with_reducible assumption) | ((with_reducible refine cell_top ?_ rfl); first | (with_reducible rfl) | (simp; done)) | (with_reducible apply cell_drew) | (with_reducible apply cell_drewN) | ((with_reducible apply cell_keep); focus (with_reducible assumption)) | (with_reducible refine cell_keep (Aft.below _) ?_) | (with_reducible apply cell_set) | ((with_reducible apply cell_off); focus (decide)) | ((with_reducible apply cell_beside); focus (first | omega | (simp; done) | (simp; omega))) | ((with_reducible apply cell_under); focus (first | omega | (simp; done) | (simp; omega)))))) hv
  have R3 : RecAt (w2.setCell ⟨b, 0, none⟩ (.int .i64 (r + 1))) b (r + 1) d true := by (repeat (first | (with_reducible assumption) | (with_reducible apply RecAt.set0) | (with_reducible apply RecAt.set1) | (with_reducible apply RecAt.set2) | ((with_reducible refine RecAt.beside ?_ ?_); (rotate_left; focus (first | omega | (simp; omega)))) | (with_reducible refine RecAt.alloc ?_ _) | (with_reducible refine RecAt.drewN ?_ _) | (with_reducible refine RecAt.drew ?_) | (with_reducible refine RecAt.below ?_ (by assumption))))
  have C3 : Chg b w (w2.setCell ⟨b, 0, none⟩ (.int .i64 (r + 1))) := by (repeat (first | (with_reducible exact Chg.refl _ _) | (with_reducible assumption) | (with_reducible refine Chg.setCell ?_ _ _) | ((with_reducible refine Chg.setNew ?_ ?_ _ _); (rotate_left; focus (first | omega | (simp; omega)))) | (with_reducible refine Chg.alloc ?_ _) | (with_reducible refine Chg.drewN ?_ _) | (with_reducible refine Chg.drew ?_) | (with_reducible refine Chg.then ?_ (by assumption))))
  have P0 : (w2.setCell ⟨b, 0, none⟩ (.int .i64 (r + 1))).cell? ⟨w.heap.size + 1, 0, none⟩ = some (.int .u8 0) := by (repeat (first | (with_reducible assumption) | ((with_reducible refine cell_top ?_ rfl); first | (with_reducible rfl) | (simp; done)) | (with_reducible apply cell_drew) | (with_reducible apply cell_drewN) | ((with_reducible apply cell_keep); focus (with_reducible assumption)) | (with_reducible refine cell_keep (Aft.below _) ?_) | (with_reducible apply cell_set) | ((with_reducible apply cell_off); focus (decide)) | ((with_reducible apply cell_beside); focus (first | omega | (simp; done) | (simp; omega))) | ((with_reducible apply cell_under); focus (first | omega | (simp; done) | (simp; omega)))))
  have P1 : (w2.setCell ⟨b, 0, none⟩ (.int .i64 (r + 1))).cell? ⟨w.heap.size + 1, 1, none⟩ = some (.int .u8 0) := by (repeat (first | (with_reducible assumption) | ((with_reducible refine cell_top ?_ rfl); first | (with_reducible rfl) | (simp; done)) | (with_reducible apply cell_drew) | (with_reducible apply cell_drewN) | ((with_reducible apply cell_keep); focus (with_reducible assumption)) | (with_reducible refine cell_keep (Aft.below _) ?_) | (with_reducible apply cell_set) | ((with_reducible apply cell_off); focus (decide)) | ((with_reducible apply cell_beside); focus (first | omega | (simp; done) | (simp; omega))) | ((with_reducible apply cell_under); focus (first | omega | (simp; done) | (simp; omega)))))
  have P2 : (w2.setCell ⟨b, 0, none⟩ (.int .i64 (r + 1))).cell? ⟨w.heap.size + 1, 2, none⟩ = some (.int .u8 0) := by (repeat (first | (with_reducible assumption) | ((with_reducible refine cell_top ?_ rfl); first | (with_reducible rfl) | (simp; done)) | (with_reducible apply cell_drew) | (with_reducible apply cell_drewN) | ((with_reducible apply cell_keep); focus (with_reducible assumption)) | (with_reducible refine cell_keep (Aft.below _) ?_) | (with_reducible apply cell_set) | ((with_reducible apply cell_off); focus (decide)) | ((with_reducible apply cell_beside); focus (first | omega | (simp; done) | (simp; omega))) | ((with_reducible apply cell_under); focus (first | omega | (simp; done) | (simp; omega)))))
  have P3 : (w2.setCell ⟨b, 0, none⟩ (.int .i64 (r + 1))).cell? ⟨w.heap.size + 1, 3, none⟩ = some (.int .u8 0) := by (repeat (first | (with_reducible assumption) | ((with_reducible refine cell_top ?_ rfl); first | (with_reducible rfl) | (simp; done)) | (with_reducible apply cell_drew) | (with_reducible apply cell_drewN) | ((with_reducible apply cell_keep); focus (with_reducible assumption)) | (with_reducible refine cell_keep (Aft.below _) ?_) | (with_reducible apply cell_set) | ((with_reducible apply cell_off); focus (decide)) | ((with_reducible apply cell_beside); focus (first | omega | (simp; done) | (simp; omega))) | ((with_reducible apply cell_under); focus (first | omega | (simp; done) | (simp; omega)))))
  have FP : ∀ o, (w2.setCell ⟨b, 0, none⟩ (.int .i64 (r + 1))).frozen? ⟨w.heap.size + 1, o, none⟩ = false := fun o => by
    rw [World.frozen?_setCell]
    refine (hb_w2.frozen (p := ⟨w.heap.size + 1, o, none⟩) (by simp; omega)).trans ?_
    rw [World.frozen?_setCell]; exact pf o
  have FQ : ∀ o, (w2.setCell ⟨b, 0, none⟩ (.int .i64 (r + 1))).frozen? ⟨w.heap.size, o, none⟩ = false := fun o => by
    rw [World.frozen?_setCell]
    refine (hb_w2.frozen (p := ⟨w.heap.size, o, none⟩) (by simp; omega)).trans ?_
    rw [World.frozen?_setCell]; exact pg o
  have hsz : w.heap.size + 1 < (w2.setCell ⟨b, 0, none⟩ (.int .i64 (r + 1))).heap.size := by simp; omega
  generalize w2.setCell ⟨b, 0, none⟩ (.int .i64 (r + 1)) = w3 at B3 R3 C3 P0 P1 P2 P3 FP FQ hsz ⊢
  obtain ⟨w4, hdr⟩ : ∃ w4, w4 = w3.drew := ⟨_, rfl⟩
  replace B3 : BytesAt w4 (some ⟨w.heap.size, 0, none⟩) 5 [x, y, z, u, v] := by rw [hdr]; exact B3.below ((Below.refl _ _).drew)
  replace R3 : RecAt w4 b (r + 1) d true := by rw [hdr]; exact R3
  replace C3 : Chg b w w4 := by rw [hdr]; exact C3.drew
  replace P0 : w4.cell? ⟨w.heap.size + 1, 0, none⟩ = some (.int .u8 0) := by rw [hdr]; exact P0
  replace P1 : w4.cell? ⟨w.heap.size + 1, 1, none⟩ = some (.int .u8 0) := by rw [hdr]; exact P1
  replace P2 : w4.cell? ⟨w.heap.size + 1, 2, none⟩ = some (.int .u8 0) := by rw [hdr]; exact P2
  replace P3 : w4.cell? ⟨w.heap.size + 1, 3, none⟩ = some (.int .u8 0) := by rw [hdr]; exact P3
  replace FP : ∀ o, w4.frozen? ⟨w.heap.size + 1, o, none⟩ = false := by rw [hdr]; exact FP
  replace FQ : ∀ o, w4.frozen? ⟨w.heap.size, o, none⟩ = false := by rw [hdr]; exact FQ
  replace hsz : w.heap.size + 1 < w4.heap.size := by rw [hdr]; exact hsz
  clear hb_w2 R2 j0 j1 j2 jf jf0 q0 q1 q2 q3 q4 p0 p1 p2 p3 pf pf0 pf1 pf2 pf3 pg k0 k1 k2 kf kf0 kf2 R1 hb_w1 hs_w1 hs_w2
  obtain ⟨zs, hzs⟩ : ∃ zs, zs = [x, y, z, u, v] := ⟨_, rfl⟩
  have hz5 : zs.length = 5 := by rw [hzs]; rfl
  rw [← hzs] at B3 hs hF
  obtain ⟨q, hq⟩ : ∃ q, k / 8 = q := ⟨_, rfl⟩
  obtain ⟨m, hm⟩ : ∃ m, k % 8 = m := ⟨_, rfl⟩
  have hq1 : q < 5 := by omega
  have hm1 : m < 8 := by omega
  have iq : (k : Int) / 8 = (q : Int) := by omega
  have im : (k : Int) % 8 = (m : Int) := by omega
  have hsh := shr128 m hm1
  have hyb := B3.byte q
  obtain ⟨zq, hzq⟩ : ∃ zq, zs[q]?.getD 0 = zq := ⟨_, rfl⟩
  rw [hzq] at hyb
  have hfl : flipZ zs k = zs.set q (bits .xor .u8 zq (128 / 2 ^ m)) := by unfold flipZ; rw [hq, hm, hzq]
  have hcq : w4.cell? ⟨w.heap.size, q, none⟩ = some (.int .u8 zq) := by
    obtain ⟨b', off', e', _, hc'⟩ := B3.cells (by omega)
    injection e' with e'; injection e' with e1 e2; subst e1; subst e2
    have := hc' q hq1
    rw [Nat.zero_add, hzq] at this
    exact this
  have hfq : w4.frozen? ⟨w.heap.size, q, none⟩ = false := FQ q
  have B4 := B3.set hq1 (xor8_bd (m := m) hyb.1 hyb.2).1 (xor8_bd (m := m) hyb.1 hyb.2).2
  rw [← hfl] at B4
  rw [hF] at B4
  obtain ⟨b', off', e', hlt4, hc'⟩ := B4.cells (by omega)
  injection e' with e'; injection e' with e1 e2; subst e1; subst e2
  have f0 := hc' 0 (by omega)
  have f1 := hc' 1 (by omega)
  have f2 := hc' 2 (by omega)
  have f3 := hc' 3 (by omega)
  simp only [Nat.zero_add] at f0 f1 f2 f3
  have R4 : RecAt (w4.setCell ⟨w.heap.size, q, none⟩ (.int .u8 (bits .xor .u8 zq (128 / 2 ^ m)))) b (r + 1) d true := by (repeat (first | (with_reducible assumption) | (with_reducible apply RecAt.set0) | (with_reducible apply RecAt.set1) | (with_reducible apply RecAt.set2) | ((with_reducible refine RecAt.beside ?_ ?_); (rotate_left; focus (first | omega | (simp; omega)))) | (with_reducible refine RecAt.alloc ?_ _) | (with_reducible refine RecAt.drewN ?_ _) | (with_reducible refine RecAt.drew ?_) | (with_reducible refine RecAt.below ?_ (by assumption))))
  have C4 : Chg b w (w4.setCell ⟨w.heap.size, q, none⟩ (.int .u8 (bits .xor .u8 zq (128 / 2 ^ m)))) := by (repeat (first | (with_reducible exact Chg.refl _ _) | (with_reducible assumption) | (with_reducible refine Chg.setCell ?_ _ _) | ((with_reducible refine Chg.setNew ?_ ?_ _ _); (rotate_left; focus (first | omega | (simp; omega)))) | (with_reducible refine Chg.alloc ?_ _) | (with_reducible refine Chg.drewN ?_ _) | (with_reducible refine Chg.drew ?_) | (with_reducible refine Chg.then ?_ (by assumption))))
  clear hc' B3 hs
  have HZQ := Lib.hid hzq
  have HQ := Lib.hid hq
  have HM := Lib.hid hm
  have HFL := Lib.hid hfl
  have HF := Lib.hid hF
  clear hzq hq hm hfl hF hzs
  have FP0 := FP 0
  have FP1 := FP 1
  have FP2 := FP 2
  have FP3 := FP 3
  (refine region_tail_q 9 (by kernel_rfl) (by kernel_rfl) rfl ?_); (rw [← hdr]); (clear hdr); (simp only [List.take_succ_cons, List.take_zero, List.drop_succ_cons, List.drop_zero]); (repeat (go_big_quiet_step (fail))); (refine wpQuiet_nil ?_)
  go_wp2
  refine bodyPost_ret (results_ct rfl _ _ rfl (load_four ?_ ?_ ?_ ?_)) rfl ⟨rfl, ?_, ?_⟩
  · (repeat (first | (with_reducible assumption) | ((with_reducible refine cell_top ?_ rfl); first | (with_reducible rfl) | (simp; done)) | (with_reducible apply cell_drew) | (with_reducible apply cell_drewN) | (with_reducible apply cell_set) | ((with_reducible apply cell_off); focus (decide)) | ((with_reducible apply cell_beside); focus (first | omega | (simp; done) | (simp; omega))) | ((with_reducible apply cell_under); focus (first | (simp; done) | (simp; omega)))))
  · (repeat (first | (with_reducible assumption) | ((with_reducible refine cell_top ?_ rfl); first | (with_reducible rfl) | (simp; done)) | (with_reducible apply cell_drew) | (with_reducible apply cell_drewN) | (with_reducible apply cell_set) | ((with_reducible apply cell_off); focus (decide)) | ((with_reducible apply cell_beside); focus (first | omega | (simp; done) | (simp; omega))) | ((with_reducible apply cell_under); focus (first | (simp; done) | (simp; omega)))))
  · (repeat (first | (with_reducible assumption) | ((with_reducible refine cell_top ?_ rfl); first | (with_reducible rfl) | (simp; done)) | (with_reducible apply cell_drew) | (with_reducible apply cell_drewN) | (with_reducible apply cell_set) | ((with_reducible apply cell_off); focus (decide)) | ((with_reducible apply cell_beside); focus (first | omega | (simp; done) | (simp; omega))) | ((with_reducible apply cell_under); focus (first | (simp; done) | (simp; omega)))))
  · (repeat (first | (with_reducible assumption) | ((with_reducible refine cell_top ?_ rfl); first | (with_reducible rfl) | (simp; done)) | (with_reducible apply cell_drew) | (with_reducible apply cell_drewN) | (with_reducible apply cell_set) | ((with_reducible apply cell_off); focus (decide)) | ((with_reducible apply cell_beside); focus (first | omega | (simp; done) | (simp; omega))) | ((with_reducible apply cell_under); focus (first | (simp; done) | (simp; omega)))))
  · (repeat (first | (with_reducible assumption) | (with_reducible apply RecAt.set0) | (with_reducible apply RecAt.set1) | (with_reducible apply RecAt.set2) | ((with_reducible refine RecAt.beside ?_ ?_); (rotate_left; focus (first | omega | (simp; omega)))) | (with_reducible refine RecAt.alloc ?_ _) | (with_reducible refine RecAt.drewN ?_ _) | (with_reducible refine RecAt.drew ?_) | (with_reducible refine RecAt.below ?_ (by assumption))))
  · (repeat (first | (with_reducible exact Chg.refl _ _) | (with_reducible assumption) | (with_reducible refine Chg.setCell ?_ _ _) | ((with_reducible refine Chg.setNew ?_ ?_ _ _); (rotate_left; focus (first | omega | (simp; omega)))) | (with_reducible refine Chg.alloc ?_ _) | (with_reducible refine Chg.drewN ?_ _) | (with_reducible refine Chg.drew ?_) | (with_reducible refine Chg.then ?_ (by assumption))))
theorem take_drop1 (b : Nat) (r d : Int) (x y z u v : Int) (w : World) (s : Int) (k : Nat) (h : RecAt w b r d true) (d0 : 0 ≤ d) (d1 : d ≤ 1000000) (hv : ∀ q ∈ [x, y, z, u, v], 0 ≤ q ∧ q < 256) (hs : synd [x, y, z, u, v] = s) (hs0 : s ≠ 0) (hs1 : 0 ≤ s) (hs2 : s < 256) (hk : bitOf s = some k) :
    Calls Tryz.prog 46 #[.pointer (some ⟨b, 0, none⟩), .agg #[.int .u8 x, .int .u8 y, .int .u8 z, .int .u8 u, .int .u8 v]] w fun e w' => e = .returned (.tuple #[.agg #[.int .u8 0, .int .u8 0, .int .u8 0, .int .u8 0], .bool false]) ∧ RecAt w' b r (d + 1) true ∧ Chg b w w' := by
  have hb := h.lt
  obtain ⟨c0, c1, c2, hf⟩ := h.cells
  have hf2 := hf 2
  have ha4 := arr_four
  have n1 : ¬ b = w.heap.size := by omega
  have n2 : ¬ b = w.heap.size + 1 := by omega
  have hbv : bitV s = .tuple #[.int .i64 k, .bool true] := by unfold bitV; rw [hk]
  have he : (s == 0) = false := by simpa using hs0
  have hne : (s != 0) = true := by simpa using hs0
  clear hk
  go_enter Tryz.func46, Tryz.ntmps46
  go_wp2_with (first | (go_at_call 71; (with_reducible refine (synd_at (five_at ?h0 (cell_under ?h1 (cell_top rfl rfl)) (cell_under ?h1 (cell_top rfl rfl)) (cell_under ?h1 (cell_top rfl rfl)) (cell_under ?h1 (cell_top rfl rfl)) (cell_under ?h1 (cell_top rfl rfl)) hv) (by decide) (by decide)).mono ?_); (case h0 => (simp; omega)); (case h1 => (simp; done)); rw [hs]; rintro e w1 ⟨rfl, hb_w1⟩; have hs_w1 := hb_w1.size; (try simp at hs_w1); have R1 : RecAt w1 b r d true := (by (repeat (first | (with_reducible assumption) | (with_reducible apply RecAt.set0) | (with_reducible apply RecAt.set1) | (with_reducible apply RecAt.set2) | ((with_reducible refine RecAt.beside ?_ ?_); (rotate_left; focus (first | omega | (simp; omega)))) | (with_reducible refine RecAt.alloc ?_ _) | (with_reducible refine RecAt.drewN ?_ _) | (with_reducible refine RecAt.drew ?_) | (with_reducible refine RecAt.below ?_ (by assumption))))); obtain ⟨k0, k1, k2, kf⟩ := R1.cells; have kf0 := kf 0; have kf2 := kf 2; have q0 : w1.cell? ⟨w.heap.size, 0, none⟩ = some (.int .u8 x) := (by (repeat (first | (with_reducible assumption) | ((with_reducible refine cell_top ?_ rfl); first | (with_reducible rfl) | (simp; done)) | (with_reducible apply cell_drew) | (with_reducible apply cell_drewN) | ((with_reducible apply cell_keep); focus (with_reducible assumption)) | (with_reducible refine cell_keep (Aft.below _) ?_) | (with_reducible apply cell_set) | ((with_reducible apply cell_off); focus (decide)) | ((with_reducible apply cell_beside); focus (first | omega | (simp; done) | (simp; omega))) | ((with_reducible apply cell_under); focus (first | omega | (simp; done) | (simp; omega)))))); have q1 : w1.cell? ⟨w.heap.size, 1, none⟩ = some (.int .u8 y) := (by (repeat (first | (with_reducible assumption) | ((with_reducible refine cell_top ?_ rfl); first | (with_reducible rfl) | (simp; done)) | (with_reducible apply cell_drew) | (with_reducible apply cell_drewN) | ((with_reducible apply cell_keep); focus (with_reducible assumption)) | (with_reducible refine cell_keep (Aft.below _) ?_) | (with_reducible apply cell_set) | ((with_reducible apply cell_off); focus (decide)) | ((with_reducible apply cell_beside); focus (first | omega | (simp; done) | (simp; omega))) | ((with_reducible apply cell_under); focus (first | omega | (simp; done) | (simp; omega)))))); have q2 : w1.cell? ⟨w.heap.size, 2, none⟩ = some (.int .u8 z) := (by (repeat (first | (with_reducible assumption) | ((with_reducible refine cell_top ?_ rfl); first | (with_reducible rfl) | (simp; done)) | (with_reducible apply cell_drew) | (with_reducible apply cell_drewN) | ((with_reducible apply cell_keep); focus (with_reducible assumption)) | (with_reducible refine cell_keep (Aft.below _) ?_) | (with_reducible apply cell_set) | ((with_reducible apply cell_off); focus (decide)) | ((with_reducible apply cell_beside); focus (first | omega | (simp; done) | (simp; omega))) | ((with_reducible apply cell_under); focus (first | omega | (simp; done) | (simp; omega)))))); have q3 : w1.cell? ⟨w.heap.size, 3, none⟩ = some (.int .u8 u) := (by (repeat (first | (with_reducible assumption) | ((with_reducible refine cell_top ?_ rfl); first | (with_reducible rfl) | (simp; done)) | (with_reducible apply cell_drew) | (with_reducible apply cell_drewN) | ((with_reducible apply cell_keep); focus (with_reducible assumption)) | (with_reducible refine cell_keep (Aft.below _) ?_) | (with_reducible apply cell_set) | ((with_reducible apply cell_off); focus (decide)) | ((with_reducible apply cell_beside); focus (first | omega | (simp; done) | (simp; omega))) | ((with_reducible apply cell_under); focus (first | omega | (simp; done) | (simp; omega)))))); have q4 : w1.cell? ⟨w.heap.size, 4, none⟩ = some (.int .u8 v) := (by (repeat (first | (with_reducible assumption) | ((with_reducible refine cell_top ?_ rfl); first | (with_reducible rfl) | (simp; done)) | (with_reducible apply cell_drew) | (with_reducible apply cell_drewN) | ((with_reducible apply cell_keep); focus (with_reducible assumption)) | (with_reducible refine cell_keep (Aft.below _) ?_) | (with_reducible apply cell_set) | ((with_reducible apply cell_off); focus (decide)) | ((with_reducible apply cell_beside); focus (first | omega | (simp; done) | (simp; omega))) | ((with_reducible apply cell_under); focus (first | omega | (simp; done) | (simp; omega)))))); have p0 : w1.cell? ⟨w.heap.size + 1, 0, none⟩ = some (.int .u8 0) := (by (repeat (first | (with_reducible assumption) | ((with_reducible refine cell_top ?_ rfl); first | (with_reducible rfl) | (simp; done)) | (with_reducible apply cell_drew) | (with_reducible apply cell_drewN) | ((with_reducible apply cell_keep); focus (with_reducible assumption)) | (with_reducible refine cell_keep (Aft.below _) ?_) | (with_reducible apply cell_set) | ((with_reducible apply cell_off); focus (decide)) | ((with_reducible apply cell_beside); focus (first | omega | (simp; done) | (simp; omega))) | ((with_reducible apply cell_under); focus (first | omega | (simp; done) | (simp; omega)))))); have p1 : w1.cell? ⟨w.heap.size + 1, 1, none⟩ = some (.int .u8 0) := (by (repeat (first | (with_reducible assumption) | ((with_reducible refine cell_top ?_ rfl); first | (with_reducible rfl) | (simp; done)) | (with_reducible apply cell_drew) | (with_reducible apply cell_drewN) | ((with_reducible apply cell_keep); focus (with_reducible assumption)) | (with_reducible refine cell_keep (Aft.below _) ?_) | (with_reducible apply cell_set) | ((with_reducible apply cell_off); focus (decide)) | ((with_reducible apply cell_beside); focus (first | omega | (simp; done) | (simp; omega))) | ((with_reducible apply cell_under); focus (first | omega | (simp; done) | (simp; omega)))))); have p2 : w1.cell? ⟨w.heap.size + 1, 2, none⟩ = some (.int .u8 0) := (by (repeat (first | (with_reducible assumption) | ((with_reducible refine cell_top ?_ rfl); first | (with_reducible rfl) | (simp; done)) | (with_reducible apply cell_drew) | (with_reducible apply cell_drewN) | ((with_reducible apply cell_keep); focus (with_reducible assumption)) | (with_reducible refine cell_keep (Aft.below _) ?_) | (with_reducible apply cell_set) | ((with_reducible apply cell_off); focus (decide)) | ((with_reducible apply cell_beside); focus (first | omega | (simp; done) | (simp; omega))) | ((with_reducible apply cell_under); focus (first | omega | (simp; done) | (simp; omega)))))); have p3 : w1.cell? ⟨w.heap.size + 1, 3, none⟩ = some (.int .u8 0) := (by (repeat (first | (with_reducible assumption) | ((with_reducible refine cell_top ?_ rfl); first | (with_reducible rfl) | (simp; done)) | (with_reducible apply cell_drew) | (with_reducible apply cell_drewN) | ((with_reducible apply cell_keep); focus (with_reducible assumption)) | (with_reducible refine cell_keep (Aft.below _) ?_) | (with_reducible apply cell_set) | ((with_reducible apply cell_off); focus (decide)) | ((with_reducible apply cell_beside); focus (first | omega | (simp; done) | (simp; omega))) | ((with_reducible apply cell_under); focus (first | omega | (simp; done) | (simp; omega)))))); have pf : ∀ o, w1.frozen? ⟨w.heap.size + 1, o, none⟩ = false := (fun o => (hb_w1.frozen (p := ⟨w.heap.size + 1, o, none⟩) (by simp)).trans (frozen_top (by simp))); have pf0 := pf 0; have pf1 := pf 1; have pf2 := pf 2; have pf3 := pf 3; have pg : ∀ o, w1.frozen? ⟨w.heap.size, o, none⟩ = false := (fun o => (hb_w1.frozen (p := ⟨w.heap.size, o, none⟩) (by (simp; omega))).trans (by simp))) | (go_at_call 72; (with_reducible refine (bit_any s _ hs1 hs2).mono ?_); rw [hbv]; rintro e w2 ⟨rfl, hb_w2⟩; have hs_w2 := hb_w2.size; (try simp at hs_w2); have R2 : RecAt w2 b r d true := (by (repeat (first | (with_reducible assumption) | (with_reducible apply RecAt.set0) | (with_reducible apply RecAt.set1) | (with_reducible apply RecAt.set2) | ((with_reducible refine RecAt.beside ?_ ?_); (rotate_left; focus (first | omega | (simp; omega)))) | (with_reducible refine RecAt.alloc ?_ _) | (with_reducible refine RecAt.drewN ?_ _) | (with_reducible refine RecAt.drew ?_) | (with_reducible refine RecAt.below ?_ (by assumption))))); have C2 : Chg b w w2 := (by (repeat (first | (with_reducible exact Chg.refl _ _) | (with_reducible assumption) | (with_reducible refine Chg.setCell ?_ _ _) | ((with_reducible refine Chg.setNew ?_ ?_ _ _); (rotate_left; focus (first | omega | (simp; omega)))) | (with_reducible refine Chg.alloc ?_ _) | (with_reducible refine Chg.drewN ?_ _) | (with_reducible refine Chg.drew ?_) | (with_reducible refine Chg.then ?_ (by assumption))))); have p0' : w2.cell? ⟨w.heap.size + 1, 0, none⟩ = some (.int .u8 0) := (by (repeat (first | (with_reducible assumption) | ((with_reducible refine cell_top ?_ rfl); first | (with_reducible rfl) | (simp; done)) | (with_reducible apply cell_drew) | (with_reducible apply cell_drewN) | ((with_reducible apply cell_keep); focus (with_reducible assumption)) | (with_reducible refine cell_keep (Aft.below _) ?_) | (with_reducible apply cell_set) | ((with_reducible apply cell_off); focus (decide)) | ((with_reducible apply cell_beside); focus (first | omega | (simp; done) | (simp; omega))) | ((with_reducible apply cell_under); focus (first | omega | (simp; done) | (simp; omega)))))); have p1' : w2.cell? ⟨w.heap.size + 1, 1, none⟩ = some (.int .u8 0) := (by (repeat (first | (with_reducible assumption) | ((with_reducible refine cell_top ?_ rfl); first | (with_reducible rfl) | (simp; done)) | (with_reducible apply cell_drew) | (with_reducible apply cell_drewN) | ((with_reducible apply cell_keep); focus (with_reducible assumption)) | (with_reducible refine cell_keep (Aft.below _) ?_) | (with_reducible apply cell_set) | ((with_reducible apply cell_off); focus (decide)) | ((with_reducible apply cell_beside); focus (first | omega | (simp; done) | (simp; omega))) | ((with_reducible apply cell_under); focus (first | omega | (simp; done) | (simp; omega)))))); have p2' : w2.cell? ⟨w.heap.size + 1, 2, none⟩ = some (.int .u8 0) := (by (repeat (first | (with_reducible assumption) | ((with_reducible refine cell_top ?_ rfl); first | (with_reducible rfl) | (simp; done)) | (with_reducible apply cell_drew) | (with_reducible apply cell_drewN) | ((with_reducible apply cell_keep); focus (with_reducible assumption)) | (with_reducible refine cell_keep (Aft.below _) ?_) | (with_reducible apply cell_set) | ((with_reducible apply cell_off); focus (decide)) | ((with_reducible apply cell_beside); focus (first | omega | (simp; done) | (simp; omega))) | ((with_reducible apply cell_under); focus (first | omega | (simp; done) | (simp; omega)))))); have p3' : w2.cell? ⟨w.heap.size + 1, 3, none⟩ = some (.int .u8 0) := (by (repeat (first | (with_reducible assumption) | ((with_reducible refine cell_top ?_ rfl); first | (with_reducible rfl) | (simp; done)) | (with_reducible apply cell_drew) | (with_reducible apply cell_drewN) | ((with_reducible apply cell_keep); focus (with_reducible assumption)) | (with_reducible refine cell_keep (Aft.below _) ?_) | (with_reducible apply cell_set) | ((with_reducible apply cell_off); focus (decide)) | ((with_reducible apply cell_beside); focus (first | omega | (simp; done) | (simp; omega))) | ((with_reducible apply cell_under); focus (first | omega | (simp; done) | (simp; omega)))))); have FP : ∀ o, w2.frozen? ⟨w.heap.size + 1, o, none⟩ = false := (fun o => by (refine (hb_w2.frozen (p := ⟨w.heap.size + 1, o, none⟩) (by (simp; omega))).trans ?_); (rw [World.frozen?_setCell]); (exact pf o))) | (go_at_call 73; (with_reducible refine (drop_any b r d true _ R2 d0 d1).mono ?_); rintro e w3 ⟨rfl, R3, C3⟩; have C4 := C2.trans C3; have hs_w3 := C3.size; have g0 := C3.cell (k := w.heap.size + 1) (o := 0) (by omega) p0'; have g1 := C3.cell (k := w.heap.size + 1) (o := 1) (by omega) p1'; have g2 := C3.cell (k := w.heap.size + 1) (o := 2) (by omega) p2'; have g3 := C3.cell (k := w.heap.size + 1) (o := 3) (by omega) p3'; have FG : ∀ o, w3.frozen? ⟨w.heap.size + 1, o, none⟩ = false := (fun o => (World.frozen?_of_block (w := w2) (C3.block (w.heap.size + 1) (by omega) (by omega))).trans (FP o)); have FG0 := FG 0; have FG1 := FG 1; have FG2 := FG 2; have FG3 := FG 3))
  have hpn : b ≠ w.heap.size := n1
  have hpn2 : b ≠ w.heap.size + 1 := n2
  refine bodyPost_ret (results_ct rfl _ _ rfl (load_four ?_ ?_ ?_ ?_)) rfl ⟨rfl, ?_, ?_⟩
  · (repeat (first | (with_reducible assumption) | ((with_reducible refine cell_top ?_ rfl); first | (with_reducible rfl) | (simp; done)) | (with_reducible apply cell_drew) | (with_reducible apply cell_drewN) | (with_reducible apply cell_set) | ((with_reducible apply cell_off); focus (decide)) | ((with_reducible apply cell_beside); focus (first | omega | (simp; done) | (simp; omega))) | ((with_reducible apply cell_under); focus (first | (simp; done) | (simp; omega)))))
  · (repeat (first | (with_reducible assumption) | ((with_reducible refine cell_top ?_ rfl); first | (with_reducible rfl) | (simp; done)) | (with_reducible apply cell_drew) | (with_reducible apply cell_drewN) | (with_reducible apply cell_set) | ((with_reducible apply cell_off); focus (decide)) | ((with_reducible apply cell_beside); focus (first | omega | (simp; done) | (simp; omega))) | ((with_reducible apply cell_under); focus (first | (simp; done) | (simp; omega)))))
  · (repeat (first | (with_reducible assumption) | ((with_reducible refine cell_top ?_ rfl); first | (with_reducible rfl) | (simp; done)) | (with_reducible apply cell_drew) | (with_reducible apply cell_drewN) | (with_reducible apply cell_set) | ((with_reducible apply cell_off); focus (decide)) | ((with_reducible apply cell_beside); focus (first | omega | (simp; done) | (simp; omega))) | ((with_reducible apply cell_under); focus (first | (simp; done) | (simp; omega)))))
  · (repeat (first | (with_reducible assumption) | ((with_reducible refine cell_top ?_ rfl); first | (with_reducible rfl) | (simp; done)) | (with_reducible apply cell_drew) | (with_reducible apply cell_drewN) | (with_reducible apply cell_set) | ((with_reducible apply cell_off); focus (decide)) | ((with_reducible apply cell_beside); focus (first | omega | (simp; done) | (simp; omega))) | ((with_reducible apply cell_under); focus (first | (simp; done) | (simp; omega)))))
  · (repeat (first | (with_reducible assumption) | (with_reducible apply RecAt.set0) | (with_reducible apply RecAt.set1) | (with_reducible apply RecAt.set2) | ((with_reducible refine RecAt.beside ?_ ?_); (rotate_left; focus (first | omega | (simp; omega)))) | (with_reducible refine RecAt.alloc ?_ _) | (with_reducible refine RecAt.drewN ?_ _) | (with_reducible refine RecAt.drew ?_) | (with_reducible refine RecAt.below ?_ (by assumption))))
  · (repeat (first | (with_reducible exact Chg.refl _ _) | (with_reducible assumption) | (with_reducible refine Chg.setCell ?_ _ _) | ((with_reducible refine Chg.setNew ?_ ?_ _ _); (rotate_left; focus (first | omega | (simp; omega)))) | (with_reducible refine Chg.alloc ?_ _) | (with_reducible refine Chg.drewN ?_ _) | (with_reducible refine Chg.drew ?_) | (with_reducible refine Chg.then ?_ (by assumption))))
theorem take_drop2 (b : Nat) (r d : Int) (x y z u v : Int) (w : World) (s : Int) (h : RecAt w b r d true) (d0 : 0 ≤ d) (d1 : d ≤ 1000000) (hv : ∀ q ∈ [x, y, z, u, v], 0 ≤ q ∧ q < 256) (hs : synd [x, y, z, u, v] = s) (hs0 : s ≠ 0) (hs1 : 0 ≤ s) (hs2 : s < 256) (hk : bitOf s = none) :
    Calls Tryz.prog 46 #[.pointer (some ⟨b, 0, none⟩), .agg #[.int .u8 x, .int .u8 y, .int .u8 z, .int .u8 u, .int .u8 v]] w fun e w' => e = .returned (.tuple #[.agg #[.int .u8 0, .int .u8 0, .int .u8 0, .int .u8 0], .bool false]) ∧ RecAt w' b r (d + 1) true ∧ Chg b w w' := by
  have hb := h.lt
  obtain ⟨c0, c1, c2, hf⟩ := h.cells
  have hf2 := hf 2
  have ha4 := arr_four
  have n1 : ¬ b = w.heap.size := by omega
  have n2 : ¬ b = w.heap.size + 1 := by omega
  have hbv : bitV s = .tuple #[.int .i64 0, .bool false] := by unfold bitV; rw [hk]
  have he : (s == 0) = false := by simpa using hs0
  have hne : (s != 0) = true := by simpa using hs0
  clear hk
  go_enter Tryz.func46, Tryz.ntmps46
  go_wp2_with (first | (go_at_call 71; (with_reducible refine (synd_at (five_at ?h0 (cell_under ?h1 (cell_top rfl rfl)) (cell_under ?h1 (cell_top rfl rfl)) (cell_under ?h1 (cell_top rfl rfl)) (cell_under ?h1 (cell_top rfl rfl)) (cell_under ?h1 (cell_top rfl rfl)) hv) (by decide) (by decide)).mono ?_); (case h0 => (simp; omega)); (case h1 => (simp; done)); rw [hs]; rintro e w1 ⟨rfl, hb_w1⟩; have hs_w1 := hb_w1.size; (try simp at hs_w1); have R1 : RecAt w1 b r d true := (by (repeat (first | (with_reducible assumption) | (with_reducible apply RecAt.set0) | (with_reducible apply RecAt.set1) | (with_reducible apply RecAt.set2) | ((with_reducible refine RecAt.beside ?_ ?_); (rotate_left; focus (first | omega | (simp; omega)))) | (with_reducible refine RecAt.alloc ?_ _) | (with_reducible refine RecAt.drewN ?_ _) | (with_reducible refine RecAt.drew ?_) | (with_reducible refine RecAt.below ?_ (by assumption))))); obtain ⟨k0, k1, k2, kf⟩ := R1.cells; have kf0 := kf 0; have kf2 := kf 2; have q0 : w1.cell? ⟨w.heap.size, 0, none⟩ = some (.int .u8 x) := (by (repeat (first | (with_reducible assumption) | ((with_reducible refine cell_top ?_ rfl); first | (with_reducible rfl) | (simp; done)) | (with_reducible apply cell_drew) | (with_reducible apply cell_drewN) | ((with_reducible apply cell_keep); focus (with_reducible assumption)) | (with_reducible refine cell_keep (Aft.below _) ?_) | (with_reducible apply cell_set) | ((with_reducible apply cell_off); focus (decide)) | ((with_reducible apply cell_beside); focus (first | omega | (simp; done) | (simp; omega))) | ((with_reducible apply cell_under); focus (first | omega | (simp; done) | (simp; omega)))))); have q1 : w1.cell? ⟨w.heap.size, 1, none⟩ = some (.int .u8 y) := (by (repeat (first | (with_reducible assumption) | ((with_reducible refine cell_top ?_ rfl); first | (with_reducible rfl) | (simp; done)) | (with_reducible apply cell_drew) | (with_reducible apply cell_drewN) | ((with_reducible apply cell_keep); focus (with_reducible assumption)) | (with_reducible refine cell_keep (Aft.below _) ?_) | (with_reducible apply cell_set) | ((with_reducible apply cell_off); focus (decide)) | ((with_reducible apply cell_beside); focus (first | omega | (simp; done) | (simp; omega))) | ((with_reducible apply cell_under); focus (first | omega | (simp; done) | (simp; omega)))))); have q2 : w1.cell? ⟨w.heap.size, 2, none⟩ = some (.int .u8 z) := (by (repeat (first | (with_reducible assumption) | ((with_reducible refine cell_top ?_ rfl); first | (with_reducible rfl) | (simp; done)) | (with_reducible apply cell_drew) | (with_reducible apply cell_drewN) | ((with_reducible apply cell_keep); focus (with_reducible assumption)) | (with_reducible refine cell_keep (Aft.below _) ?_) | (with_reducible apply cell_set) | ((with_reducible apply cell_off); focus (decide)) | ((with_reducible apply cell_beside); focus (first | omega | (simp; done) | (simp; omega))) | ((with_reducible apply cell_under); focus (first | omega | (simp; done) | (simp; omega)))))); have q3 : w1.cell? ⟨w.heap.size, 3, none⟩ = some (.int .u8 u) := (by (repeat (first | (with_reducible assumption) | ((with_reducible refine cell_top ?_ rfl); first | (with_reducible rfl) | (simp; done)) | (with_reducible apply cell_drew) | (with_reducible apply cell_drewN) | ((with_reducible apply cell_keep); focus (with_reducible assumption)) | (with_reducible refine cell_keep (Aft.below _) ?_) | (with_reducible apply cell_set) | ((with_reducible apply cell_off); focus (decide)) | ((with_reducible apply cell_beside); focus (first | omega | (simp; done) | (simp; omega))) | ((with_reducible apply cell_under); focus (first | omega | (simp; done) | (simp; omega)))))); have q4 : w1.cell? ⟨w.heap.size, 4, none⟩ = some (.int .u8 v) := (by (repeat (first | (with_reducible assumption) | ((with_reducible refine cell_top ?_ rfl); first | (with_reducible rfl) | (simp; done)) | (with_reducible apply cell_drew) | (with_reducible apply cell_drewN) | ((with_reducible apply cell_keep); focus (with_reducible assumption)) | (with_reducible refine cell_keep (Aft.below _) ?_) | (with_reducible apply cell_set) | ((with_reducible apply cell_off); focus (decide)) | ((with_reducible apply cell_beside); focus (first | omega | (simp; done) | (simp; omega))) | ((with_reducible apply cell_under); focus (first | omega | (simp; done) | (simp; omega)))))); have p0 : w1.cell? ⟨w.heap.size + 1, 0, none⟩ = some (.int .u8 0) := (by (repeat (first | (with_reducible assumption) | ((with_reducible refine cell_top ?_ rfl); first | (with_reducible rfl) | (simp; done)) | (with_reducible apply cell_drew) | (with_reducible apply cell_drewN) | ((with_reducible apply cell_keep); focus (with_reducible assumption)) | (with_reducible refine cell_keep (Aft.below _) ?_) | (with_reducible apply cell_set) | ((with_reducible apply cell_off); focus (decide)) | ((with_reducible apply cell_beside); focus (first | omega | (simp; done) | (simp; omega))) | ((with_reducible apply cell_under); focus (first | omega | (simp; done) | (simp; omega)))))); have p1 : w1.cell? ⟨w.heap.size + 1, 1, none⟩ = some (.int .u8 0) := (by (repeat (first | (with_reducible assumption) | ((with_reducible refine cell_top ?_ rfl); first | (with_reducible rfl) | (simp; done)) | (with_reducible apply cell_drew) | (with_reducible apply cell_drewN) | ((with_reducible apply cell_keep); focus (with_reducible assumption)) | (with_reducible refine cell_keep (Aft.below _) ?_) | (with_reducible apply cell_set) | ((with_reducible apply cell_off); focus (decide)) | ((with_reducible apply cell_beside); focus (first | omega | (simp; done) | (simp; omega))) | ((with_reducible apply cell_under); focus (first | omega | (simp; done) | (simp; omega)))))); have p2 : w1.cell? ⟨w.heap.size + 1, 2, none⟩ = some (.int .u8 0) := (by (repeat (first | (with_reducible assumption) | ((with_reducible refine cell_top ?_ rfl); first | (with_reducible rfl) | (simp; done)) | (with_reducible apply cell_drew) | (with_reducible apply cell_drewN) | ((with_reducible apply cell_keep); focus (with_reducible assumption)) | (with_reducible refine cell_keep (Aft.below _) ?_) | (with_reducible apply cell_set) | ((with_reducible apply cell_off); focus (decide)) | ((with_reducible apply cell_beside); focus (first | omega | (simp; done) | (simp; omega))) | ((with_reducible apply cell_under); focus (first | omega | (simp; done) | (simp; omega)))))); have p3 : w1.cell? ⟨w.heap.size + 1, 3, none⟩ = some (.int .u8 0) := (by (repeat (first | (with_reducible assumption) | ((with_reducible refine cell_top ?_ rfl); first | (with_reducible rfl) | (simp; done)) | (with_reducible apply cell_drew) | (with_reducible apply cell_drewN) | ((with_reducible apply cell_keep); focus (with_reducible assumption)) | (with_reducible refine cell_keep (Aft.below _) ?_) | (with_reducible apply cell_set) | ((with_reducible apply cell_off); focus (decide)) | ((with_reducible apply cell_beside); focus (first | omega | (simp; done) | (simp; omega))) | ((with_reducible apply cell_under); focus (first | omega | (simp; done) | (simp; omega)))))); have pf : ∀ o, w1.frozen? ⟨w.heap.size + 1, o, none⟩ = false := (fun o => (hb_w1.frozen (p := ⟨w.heap.size + 1, o, none⟩) (by simp)).trans (frozen_top (by simp))); have pf0 := pf 0; have pf1 := pf 1; have pf2 := pf 2; have pf3 := pf 3; have pg : ∀ o, w1.frozen? ⟨w.heap.size, o, none⟩ = false := (fun o => (hb_w1.frozen (p := ⟨w.heap.size, o, none⟩) (by (simp; omega))).trans (by simp))) | (go_at_call 72; (with_reducible refine (bit_any s _ hs1 hs2).mono ?_); rw [hbv]; rintro e w2 ⟨rfl, hb_w2⟩; have hs_w2 := hb_w2.size; (try simp at hs_w2); have R2 : RecAt w2 b r d true := (by (repeat (first | (with_reducible assumption) | (with_reducible apply RecAt.set0) | (with_reducible apply RecAt.set1) | (with_reducible apply RecAt.set2) | ((with_reducible refine RecAt.beside ?_ ?_); (rotate_left; focus (first | omega | (simp; omega)))) | (with_reducible refine RecAt.alloc ?_ _) | (with_reducible refine RecAt.drewN ?_ _) | (with_reducible refine RecAt.drew ?_) | (with_reducible refine RecAt.below ?_ (by assumption))))); have C2 : Chg b w w2 := (by (repeat (first | (with_reducible exact Chg.refl _ _) | (with_reducible assumption) | (with_reducible refine Chg.setCell ?_ _ _) | ((with_reducible refine Chg.setNew ?_ ?_ _ _); (rotate_left; focus (first | omega | (simp; omega)))) | (with_reducible refine Chg.alloc ?_ _) | (with_reducible refine Chg.drewN ?_ _) | (with_reducible refine Chg.drew ?_) | (with_reducible refine Chg.then ?_ (by assumption))))); have p0' : w2.cell? ⟨w.heap.size + 1, 0, none⟩ = some (.int .u8 0) := (by (repeat (first | (with_reducible assumption) | ((with_reducible refine cell_top ?_ rfl); first | (with_reducible rfl) | (simp; done)) | (with_reducible apply cell_drew) | (with_reducible apply cell_drewN) | ((with_reducible apply cell_keep); focus (with_reducible assumption)) | (with_reducible refine cell_keep (Aft.below _) ?_) | (with_reducible apply cell_set) | ((with_reducible apply cell_off); focus (decide)) | ((with_reducible apply cell_beside); focus (first | omega | (simp; done) | (simp; omega))) | ((with_reducible apply cell_under); focus (first | omega | (simp; done) | (simp; omega)))))); have p1' : w2.cell? ⟨w.heap.size + 1, 1, none⟩ = some (.int .u8 0) := (by (repeat (first | (with_reducible assumption) | ((with_reducible refine cell_top ?_ rfl); first | (with_reducible rfl) | (simp; done)) | (with_reducible apply cell_drew) | (with_reducible apply cell_drewN) | ((with_reducible apply cell_keep); focus (with_reducible assumption)) | (with_reducible refine cell_keep (Aft.below _) ?_) | (with_reducible apply cell_set) | ((with_reducible apply cell_off); focus (decide)) | ((with_reducible apply cell_beside); focus (first | omega | (simp; done) | (simp; omega))) | ((with_reducible apply cell_under); focus (first | omega | (simp; done) | (simp; omega)))))); have p2' : w2.cell? ⟨w.heap.size + 1, 2, none⟩ = some (.int .u8 0) := (by (repeat (first | (with_reducible assumption) | ((with_reducible refine cell_top ?_ rfl); first | (with_reducible rfl) | (simp; done)) | (with_reducible apply cell_drew) | (with_reducible apply cell_drewN) | ((with_reducible apply cell_keep); focus (with_reducible assumption)) | (with_reducible refine cell_keep (Aft.below _) ?_) | (with_reducible apply cell_set) | ((with_reducible apply cell_off); focus (decide)) | ((with_reducible apply cell_beside); focus (first | omega | (simp; done) | (simp; omega))) | ((with_reducible apply cell_under); focus (first | omega | (simp; done) | (simp; omega)))))); have p3' : w2.cell? ⟨w.heap.size + 1, 3, none⟩ = some (.int .u8 0) := (by (repeat (first | (with_reducible assumption) | ((with_reducible refine cell_top ?_ rfl); first | (with_reducible rfl) | (simp; done)) | (with_reducible apply cell_drew) | (with_reducible apply cell_drewN) | ((with_reducible apply cell_keep); focus (with_reducible assumption)) | (with_reducible refine cell_keep (Aft.below _) ?_) | (with_reducible apply cell_set) | ((with_reducible apply cell_off); focus (decide)) | ((with_reducible apply cell_beside); focus (first | omega | (simp; done) | (simp; omega))) | ((with_reducible apply cell_under); focus (first | omega | (simp; done) | (simp; omega)))))); have FP : ∀ o, w2.frozen? ⟨w.heap.size + 1, o, none⟩ = false := (fun o => by (refine (hb_w2.frozen (p := ⟨w.heap.size + 1, o, none⟩) (by (simp; omega))).trans ?_); (rw [World.frozen?_setCell]); (exact pf o))) | (go_at_call 73; (with_reducible refine (drop_any b r d true _ R2 d0 d1).mono ?_); rintro e w3 ⟨rfl, R3, C3⟩; have C4 := C2.trans C3; have hs_w3 := C3.size; have g0 := C3.cell (k := w.heap.size + 1) (o := 0) (by omega) p0'; have g1 := C3.cell (k := w.heap.size + 1) (o := 1) (by omega) p1'; have g2 := C3.cell (k := w.heap.size + 1) (o := 2) (by omega) p2'; have g3 := C3.cell (k := w.heap.size + 1) (o := 3) (by omega) p3'; have FG : ∀ o, w3.frozen? ⟨w.heap.size + 1, o, none⟩ = false := (fun o => (World.frozen?_of_block (w := w2) (C3.block (w.heap.size + 1) (by omega) (by omega))).trans (FP o)); have FG0 := FG 0; have FG1 := FG 1; have FG2 := FG 2; have FG3 := FG 3))
  have hpn : b ≠ w.heap.size := n1
  have hpn2 : b ≠ w.heap.size + 1 := n2
  refine bodyPost_ret (results_ct rfl _ _ rfl (load_four ?_ ?_ ?_ ?_)) rfl ⟨rfl, ?_, ?_⟩
  · (repeat (first | (with_reducible assumption) | ((with_reducible refine cell_top ?_ rfl); first | (with_reducible rfl) | (simp; done)) | (with_reducible apply cell_drew) | (with_reducible apply cell_drewN) | (with_reducible apply cell_set) | ((with_reducible apply cell_off); focus (decide)) | ((with_reducible apply cell_beside); focus (first | omega | (simp; done) | (simp; omega))) | ((with_reducible apply cell_under); focus (first | (simp; done) | (simp; omega)))))
  · (repeat (first | (with_reducible assumption) | ((with_reducible refine cell_top ?_ rfl); first | (with_reducible rfl) | (simp; done)) | (with_reducible apply cell_drew) | (with_reducible apply cell_drewN) | (with_reducible apply cell_set) | ((with_reducible apply cell_off); focus (decide)) | ((with_reducible apply cell_beside); focus (first | omega | (simp; done) | (simp; omega))) | ((with_reducible apply cell_under); focus (first | (simp; done) | (simp; omega)))))
  · (repeat (first | (with_reducible assumption) | ((with_reducible refine cell_top ?_ rfl); first | (with_reducible rfl) | (simp; done)) | (with_reducible apply cell_drew) | (with_reducible apply cell_drewN) | (with_reducible apply cell_set) | ((with_reducible apply cell_off); focus (decide)) | ((with_reducible apply cell_beside); focus (first | omega | (simp; done) | (simp; omega))) | ((with_reducible apply cell_under); focus (first | (simp; done) | (simp; omega)))))
  · (repeat (first | (with_reducible assumption) | ((with_reducible refine cell_top ?_ rfl); first | (with_reducible rfl) | (simp; done)) | (with_reducible apply cell_drew) | (with_reducible apply cell_drewN) | (with_reducible apply cell_set) | ((with_reducible apply cell_off); focus (decide)) | ((with_reducible apply cell_beside); focus (first | omega | (simp; done) | (simp; omega))) | ((with_reducible apply cell_under); focus (first | (simp; done) | (simp; omega)))))
  · (repeat (first | (with_reducible assumption) | (with_reducible apply RecAt.set0) | (with_reducible apply RecAt.set1) | (with_reducible apply RecAt.set2) | ((with_reducible refine RecAt.beside ?_ ?_); (rotate_left; focus (first | omega | (simp; omega)))) | (with_reducible refine RecAt.alloc ?_ _) | (with_reducible refine RecAt.drewN ?_ _) | (with_reducible refine RecAt.drew ?_) | (with_reducible refine RecAt.below ?_ (by assumption))))
  · (repeat (first | (with_reducible exact Chg.refl _ _) | (with_reducible assumption) | (with_reducible refine Chg.setCell ?_ _ _) | ((with_reducible refine Chg.setNew ?_ ?_ _ _); (rotate_left; focus (first | omega | (simp; omega)))) | (with_reducible refine Chg.alloc ?_ _) | (with_reducible refine Chg.drewN ?_ _) | (with_reducible refine Chg.drew ?_) | (with_reducible refine Chg.then ?_ (by assumption))))
theorem take_drop3 (b : Nat) (r d : Int) (x y z u v : Int) (w : World) (s : Int) (h : RecAt w b r d false) (d0 : 0 ≤ d) (d1 : d ≤ 1000000) (hv : ∀ q ∈ [x, y, z, u, v], 0 ≤ q ∧ q < 256) (hs : synd [x, y, z, u, v] = s) (hs0 : s ≠ 0) (hs1 : 0 ≤ s) (hs2 : s < 256) (hk : bitOf s = none) :
    Calls Tryz.prog 46 #[.pointer (some ⟨b, 0, none⟩), .agg #[.int .u8 x, .int .u8 y, .int .u8 z, .int .u8 u, .int .u8 v]] w fun e w' => e = .returned (.tuple #[.agg #[.int .u8 0, .int .u8 0, .int .u8 0, .int .u8 0], .bool false]) ∧ RecAt w' b r (d + 1) true ∧ Chg b w w' := by
  have hb := h.lt
  obtain ⟨c0, c1, c2, hf⟩ := h.cells
  have hf2 := hf 2
  have ha4 := arr_four
  have n1 : ¬ b = w.heap.size := by omega
  have n2 : ¬ b = w.heap.size + 1 := by omega
  have hbv : bitV s = .tuple #[.int .i64 0, .bool false] := by unfold bitV; rw [hk]
  have he : (s == 0) = false := by simpa using hs0
  have hne : (s != 0) = true := by simpa using hs0
  clear hk
  go_enter Tryz.func46, Tryz.ntmps46
  go_wp2_with (first | (go_at_call 71; (with_reducible refine (synd_at (five_at ?h0 (cell_under ?h1 (cell_top rfl rfl)) (cell_under ?h1 (cell_top rfl rfl)) (cell_under ?h1 (cell_top rfl rfl)) (cell_under ?h1 (cell_top rfl rfl)) (cell_under ?h1 (cell_top rfl rfl)) hv) (by decide) (by decide)).mono ?_); (case h0 => (simp; omega)); (case h1 => (simp; done)); rw [hs]; rintro e w1 ⟨rfl, hb_w1⟩; have hs_w1 := hb_w1.size; (try simp at hs_w1); have R1 : RecAt w1 b r d false := (by (repeat (first | (with_reducible assumption) | (with_reducible apply RecAt.set0) | (with_reducible apply RecAt.set1) | (with_reducible apply RecAt.set2) | ((with_reducible refine RecAt.beside ?_ ?_); (rotate_left; focus (first | omega | (simp; omega)))) | (with_reducible refine RecAt.alloc ?_ _) | (with_reducible refine RecAt.drewN ?_ _) | (with_reducible refine RecAt.drew ?_) | (with_reducible refine RecAt.below ?_ (by assumption))))); obtain ⟨k0, k1, k2, kf⟩ := R1.cells; have kf0 := kf 0; have kf2 := kf 2; have q0 : w1.cell? ⟨w.heap.size, 0, none⟩ = some (.int .u8 x) := (by (repeat (first | (with_reducible assumption) | ((with_reducible refine cell_top ?_ rfl); first | (with_reducible rfl) | (simp; done)) | (with_reducible apply cell_drew) | (with_reducible apply cell_drewN) | ((with_reducible apply cell_keep); focus (with_reducible assumption)) | (with_reducible refine cell_keep (Aft.below _) ?_) | (with_reducible apply cell_set) | ((with_reducible apply cell_off); focus (decide)) | ((with_reducible apply cell_beside); focus (first | omega | (simp; done) | (simp; omega))) | ((with_reducible apply cell_under); focus (first | omega | (simp; done) | (simp; omega)))))); have q1 : w1.cell? ⟨w.heap.size, 1, none⟩ = some (.int .u8 y) := (by (repeat (first | (with_reducible assumption) | ((with_reducible refine cell_top ?_ rfl); first | (with_reducible rfl) | (simp; done)) | (with_reducible apply cell_drew) | (with_reducible apply cell_drewN) | ((with_reducible apply cell_keep); focus (with_reducible assumption)) | (with_reducible refine cell_keep (Aft.below _) ?_) | (with_reducible apply cell_set) | ((with_reducible apply cell_off); focus (decide)) | ((with_reducible apply cell_beside); focus (first | omega | (simp; done) | (simp; omega))) | ((with_reducible apply cell_under); focus (first | omega | (simp; done) | (simp; omega)))))); have q2 : w1.cell? ⟨w.heap.size, 2, none⟩ = some (.int .u8 z) := (by (repeat (first | (with_reducible assumption) | ((with_reducible refine cell_top ?_ rfl); first | (with_reducible rfl) | (simp; done)) | (with_reducible apply cell_drew) | (with_reducible apply cell_drewN) | ((with_reducible apply cell_keep); focus (with_reducible assumption)) | (with_reducible refine cell_keep (Aft.below _) ?_) | (with_reducible apply cell_set) | ((with_reducible apply cell_off); focus (decide)) | ((with_reducible apply cell_beside); focus (first | omega | (simp; done) | (simp; omega))) | ((with_reducible apply cell_under); focus (first | omega | (simp; done) | (simp; omega)))))); have q3 : w1.cell? ⟨w.heap.size, 3, none⟩ = some (.int .u8 u) := (by (repeat (first | (with_reducible assumption) | ((with_reducible refine cell_top ?_ rfl); first | (with_reducible rfl) | (simp; done)) | (with_reducible apply cell_drew) | (with_reducible apply cell_drewN) | ((with_reducible apply cell_keep); focus (with_reducible assumption)) | (with_reducible refine cell_keep (Aft.below _) ?_) | (with_reducible apply cell_set) | ((with_reducible apply cell_off); focus (decide)) | ((with_reducible apply cell_beside); focus (first | omega | (simp; done) | (simp; omega))) | ((with_reducible apply cell_under); focus (first | omega | (simp; done) | (simp; omega)))))); have q4 : w1.cell? ⟨w.heap.size, 4, none⟩ = some (.int .u8 v) := (by (repeat (first | (with_reducible assumption) | ((with_reducible refine cell_top ?_ rfl); first | (with_reducible rfl) | (simp; done)) | (with_reducible apply cell_drew) | (with_reducible apply cell_drewN) | ((with_reducible apply cell_keep); focus (with_reducible assumption)) | (with_reducible refine cell_keep (Aft.below _) ?_) | (with_reducible apply cell_set) | ((with_reducible apply cell_off); focus (decide)) | ((with_reducible apply cell_beside); focus (first | omega | (simp; done) | (simp; omega))) | ((with_reducible apply cell_under); focus (first | omega | (simp; done) | (simp; omega)))))); have p0 : w1.cell? ⟨w.heap.size + 1, 0, none⟩ = some (.int .u8 0) := (by (repeat (first | (with_reducible assumption) | ((with_reducible refine cell_top ?_ rfl); first | (with_reducible rfl) | (simp; done)) | (with_reducible apply cell_drew) | (with_reducible apply cell_drewN) | ((with_reducible apply cell_keep); focus (with_reducible assumption)) | (with_reducible refine cell_keep (Aft.below _) ?_) | (with_reducible apply cell_set) | ((with_reducible apply cell_off); focus (decide)) | ((with_reducible apply cell_beside); focus (first | omega | (simp; done) | (simp; omega))) | ((with_reducible apply cell_under); focus (first | omega | (simp; done) | (simp; omega)))))); have p1 : w1.cell? ⟨w.heap.size + 1, 1, none⟩ = some (.int .u8 0) := (by (repeat (first | (with_reducible assumption) | ((with_reducible refine cell_top ?_ rfl); first | (with_reducible rfl) | (simp; done)) | (with_reducible apply cell_drew) | (with_reducible apply cell_drewN) | ((with_reducible apply cell_keep); focus (with_reducible assumption)) | (with_reducible refine cell_keep (Aft.below _) ?_) | (with_reducible apply cell_set) | ((with_reducible apply cell_off); focus (decide)) | ((with_reducible apply cell_beside); focus (first | omega | (simp; done) | (simp; omega))) | ((with_reducible apply cell_under); focus (first | omega | (simp; done) | (simp; omega)))))); have p2 : w1.cell? ⟨w.heap.size + 1, 2, none⟩ = some (.int .u8 0) := (by (repeat (first | (with_reducible assumption) | ((with_reducible refine cell_top ?_ rfl); first | (with_reducible rfl) | (simp; done)) | (with_reducible apply cell_drew) | (with_reducible apply cell_drewN) | ((with_reducible apply cell_keep); focus (with_reducible assumption)) | (with_reducible refine cell_keep (Aft.below _) ?_) | (with_reducible apply cell_set) | ((with_reducible apply cell_off); focus (decide)) | ((with_reducible apply cell_beside); focus (first | omega | (simp; done) | (simp; omega))) | ((with_reducible apply cell_under); focus (first | omega | (simp; done) | (simp; omega)))))); have p3 : w1.cell? ⟨w.heap.size + 1, 3, none⟩ = some (.int .u8 0) := (by (repeat (first | (with_reducible assumption) | ((with_reducible refine cell_top ?_ rfl); first | (with_reducible rfl) | (simp; done)) | (with_reducible apply cell_drew) | (with_reducible apply cell_drewN) | ((with_reducible apply cell_keep); focus (with_reducible assumption)) | (with_reducible refine cell_keep (Aft.below _) ?_) | (with_reducible apply cell_set) | ((with_reducible apply cell_off); focus (decide)) | ((with_reducible apply cell_beside); focus (first | omega | (simp; done) | (simp; omega))) | ((with_reducible apply cell_under); focus (first | omega | (simp; done) | (simp; omega)))))); have pf : ∀ o, w1.frozen? ⟨w.heap.size + 1, o, none⟩ = false := (fun o => (hb_w1.frozen (p := ⟨w.heap.size + 1, o, none⟩) (by simp)).trans (frozen_top (by simp))); have pf0 := pf 0; have pf1 := pf 1; have pf2 := pf 2; have pf3 := pf 3; have pg : ∀ o, w1.frozen? ⟨w.heap.size, o, none⟩ = false := (fun o => (hb_w1.frozen (p := ⟨w.heap.size, o, none⟩) (by (simp; omega))).trans (by simp))) | (go_at_call 72; (with_reducible refine (bit_any s _ hs1 hs2).mono ?_); rw [hbv]; rintro e w2 ⟨rfl, hb_w2⟩; have hs_w2 := hb_w2.size; (try simp at hs_w2); have R2 : RecAt w2 b r d true := (by (repeat (first | (with_reducible assumption) | (with_reducible apply RecAt.set0) | (with_reducible apply RecAt.set1) | (with_reducible apply RecAt.set2) | ((with_reducible refine RecAt.beside ?_ ?_); (rotate_left; focus (first | omega | (simp; omega)))) | (with_reducible refine RecAt.alloc ?_ _) | (with_reducible refine RecAt.drewN ?_ _) | (with_reducible refine RecAt.drew ?_) | (with_reducible refine RecAt.below ?_ (by assumption))))); have C2 : Chg b w w2 := (by (repeat (first | (with_reducible exact Chg.refl _ _) | (with_reducible assumption) | (with_reducible refine Chg.setCell ?_ _ _) | ((with_reducible refine Chg.setNew ?_ ?_ _ _); (rotate_left; focus (first | omega | (simp; omega)))) | (with_reducible refine Chg.alloc ?_ _) | (with_reducible refine Chg.drewN ?_ _) | (with_reducible refine Chg.drew ?_) | (with_reducible refine Chg.then ?_ (by assumption))))); have p0' : w2.cell? ⟨w.heap.size + 1, 0, none⟩ = some (.int .u8 0) := (by (repeat (first | (with_reducible assumption) | ((with_reducible refine cell_top ?_ rfl); first | (with_reducible rfl) | (simp; done)) | (with_reducible apply cell_drew) | (with_reducible apply cell_drewN) | ((with_reducible apply cell_keep); focus (with_reducible assumption)) | (with_reducible refine cell_keep (Aft.below _) ?_) | (with_reducible apply cell_set) | ((with_reducible apply cell_off); focus (decide)) | ((with_reducible apply cell_beside); focus (first | omega | (simp; done) | (simp; omega))) | ((with_reducible apply cell_under); focus (first | omega | (simp; done) | (simp; omega)))))); have p1' : w2.cell? ⟨w.heap.size + 1, 1, none⟩ = some (.int .u8 0) := (by (repeat (first | (with_reducible assumption) | ((with_reducible refine cell_top ?_ rfl); first | (with_reducible rfl) | (simp; done)) | (with_reducible apply cell_drew) | (with_reducible apply cell_drewN) | ((with_reducible apply cell_keep); focus (with_reducible assumption)) | (with_reducible refine cell_keep (Aft.below _) ?_) | (with_reducible apply cell_set) | ((with_reducible apply cell_off); focus (decide)) | ((with_reducible apply cell_beside); focus (first | omega | (simp; done) | (simp; omega))) | ((with_reducible apply cell_under); focus (first | omega | (simp; done) | (simp; omega)))))); have p2' : w2.cell? ⟨w.heap.size + 1, 2, none⟩ = some (.int .u8 0) := (by (repeat (first | (with_reducible assumption) | ((with_reducible refine cell_top ?_ rfl); first | (with_reducible rfl) | (simp; done)) | (with_reducible apply cell_drew) | (with_reducible apply cell_drewN) | ((with_reducible apply cell_keep); focus (with_reducible assumption)) | (with_reducible refine cell_keep (Aft.below _) ?_) | (with_reducible apply cell_set) | ((with_reducible apply cell_off); focus (decide)) | ((with_reducible apply cell_beside); focus (first | omega | (simp; done) | (simp; omega))) | ((with_reducible apply cell_under); focus (first | omega | (simp; done) | (simp; omega)))))); have p3' : w2.cell? ⟨w.heap.size + 1, 3, none⟩ = some (.int .u8 0) := (by (repeat (first | (with_reducible assumption) | ((with_reducible refine cell_top ?_ rfl); first | (with_reducible rfl) | (simp; done)) | (with_reducible apply cell_drew) | (with_reducible apply cell_drewN) | ((with_reducible apply cell_keep); focus (with_reducible assumption)) | (with_reducible refine cell_keep (Aft.below _) ?_) | (with_reducible apply cell_set) | ((with_reducible apply cell_off); focus (decide)) | ((with_reducible apply cell_beside); focus (first | omega | (simp; done) | (simp; omega))) | ((with_reducible apply cell_under); focus (first | omega | (simp; done) | (simp; omega)))))); have FP : ∀ o, w2.frozen? ⟨w.heap.size + 1, o, none⟩ = false := (fun o => by (refine (hb_w2.frozen (p := ⟨w.heap.size + 1, o, none⟩) (by (simp; omega))).trans ?_); (rw [World.frozen?_setCell]); (exact pf o))) | (go_at_call 73; (with_reducible refine (drop_any b r d true _ R2 d0 d1).mono ?_); rintro e w3 ⟨rfl, R3, C3⟩; have C4 := C2.trans C3; have hs_w3 := C3.size; have g0 := C3.cell (k := w.heap.size + 1) (o := 0) (by omega) p0'; have g1 := C3.cell (k := w.heap.size + 1) (o := 1) (by omega) p1'; have g2 := C3.cell (k := w.heap.size + 1) (o := 2) (by omega) p2'; have g3 := C3.cell (k := w.heap.size + 1) (o := 3) (by omega) p3'; have FG : ∀ o, w3.frozen? ⟨w.heap.size + 1, o, none⟩ = false := (fun o => (World.frozen?_of_block (w := w2) (C3.block (w.heap.size + 1) (by omega) (by omega))).trans (FP o)); have FG0 := FG 0; have FG1 := FG 1; have FG2 := FG 2; have FG3 := FG 3))
  have hpn : b ≠ w.heap.size := n1
  have hpn2 : b ≠ w.heap.size + 1 := n2
  refine bodyPost_ret (results_ct rfl _ _ rfl (load_four ?_ ?_ ?_ ?_)) rfl ⟨rfl, ?_, ?_⟩
  · (repeat (first | (with_reducible assumption) | ((with_reducible refine cell_top ?_ rfl); first | (with_reducible rfl) | (simp; done)) | (with_reducible apply cell_drew) | (with_reducible apply cell_drewN) | (with_reducible apply cell_set) | ((with_reducible apply cell_off); focus (decide)) | ((with_reducible apply cell_beside); focus (first | omega | (simp; done) | (simp; omega))) | ((with_reducible apply cell_under); focus (first | (simp; done) | (simp; omega)))))
  · (repeat (first | (with_reducible assumption) | ((with_reducible refine cell_top ?_ rfl); first | (with_reducible rfl) | (simp; done)) | (with_reducible apply cell_drew) | (with_reducible apply cell_drewN) | (with_reducible apply cell_set) | ((with_reducible apply cell_off); focus (decide)) | ((with_reducible apply cell_beside); focus (first | omega | (simp; done) | (simp; omega))) | ((with_reducible apply cell_under); focus (first | (simp; done) | (simp; omega)))))
  · (repeat (first | (with_reducible assumption) | ((with_reducible refine cell_top ?_ rfl); first | (with_reducible rfl) | (simp; done)) | (with_reducible apply cell_drew) | (with_reducible apply cell_drewN) | (with_reducible apply cell_set) | ((with_reducible apply cell_off); focus (decide)) | ((with_reducible apply cell_beside); focus (first | omega | (simp; done) | (simp; omega))) | ((with_reducible apply cell_under); focus (first | (simp; done) | (simp; omega)))))
  · (repeat (first | (with_reducible assumption) | ((with_reducible refine cell_top ?_ rfl); first | (with_reducible rfl) | (simp; done)) | (with_reducible apply cell_drew) | (with_reducible apply cell_drewN) | (with_reducible apply cell_set) | ((with_reducible apply cell_off); focus (decide)) | ((with_reducible apply cell_beside); focus (first | omega | (simp; done) | (simp; omega))) | ((with_reducible apply cell_under); focus (first | (simp; done) | (simp; omega)))))
  · (repeat (first | (with_reducible assumption) | (with_reducible apply RecAt.set0) | (with_reducible apply RecAt.set1) | (with_reducible apply RecAt.set2) | ((with_reducible refine RecAt.beside ?_ ?_); (rotate_left; focus (first | omega | (simp; omega)))) | (with_reducible refine RecAt.alloc ?_ _) | (with_reducible refine RecAt.drewN ?_ _) | (with_reducible refine RecAt.drew ?_) | (with_reducible refine RecAt.below ?_ (by assumption))))
  · (repeat (first | (with_reducible exact Chg.refl _ _) | (with_reducible assumption) | (with_reducible refine Chg.setCell ?_ _ _) | ((with_reducible refine Chg.setNew ?_ ?_ _ _); (rotate_left; focus (first | omega | (simp; omega)))) | (with_reducible refine Chg.alloc ?_ _) | (with_reducible refine Chg.drewN ?_ _) | (with_reducible refine Chg.drew ?_) | (with_reducible refine Chg.then ?_ (by assumption))))
theorem synd_bd (zs : List Int) (hb : ∀ q ∈ zs, 0 ≤ q ∧ q < 256) : 0 ≤ synd zs ∧ synd zs < 256 := by
  unfold synd
  split
  · omega
  · have hz : isB (zs[zs.length - 1]?.getD 0) := by
      by_cases hl : zs.length - 1 < zs.length
      · rw [List.getElem?_eq_getElem hl]; exact hb _ (List.getElem_mem hl)
      · rw [List.getElem?_eq_none (by omega)]; unfold isB; simp
    exact xor_isB hz (e8_bd _)
theorem take_any (b : Nat) (r d : Int) (c : Bool) (x y z u v : Int) (w : World) (h : RecAt w b r d c) (r0 : 0 ≤ r) (r1 : r ≤ 1000000) (d0 : 0 ≤ d) (d1 : d ≤ 1000000) (hv : ∀ q ∈ [x, y, z, u, v], 0 ≤ q ∧ q < 256) :
    Calls Tryz.prog 46 #[.pointer (some ⟨b, 0, none⟩), .agg #[.int .u8 x, .int .u8 y, .int .u8 z, .int .u8 u, .int .u8 v]] w fun e w' => e = .returned (.tuple #[agg4 (takes c [x, y, z, u, v]), .bool (!drops c [x, y, z, u, v])]) ∧ RecAt w' b (r + oneIf (fixes c [x, y, z, u, v])) (d + oneIf (drops c [x, y, z, u, v])) (synd [x, y, z, u, v] != 0) ∧ Chg b w w' := by
  have hbd := synd_bd _ hv
  by_cases hs : synd [x, y, z, u, v] = 0
  · have e1 : fixes c [x, y, z, u, v] = false := by unfold fixes; rw [hs]; rfl
    have e2 : drops c [x, y, z, u, v] = false := by unfold drops; rw [hs]; rfl
    have e3 : takes c [x, y, z, u, v] = [x, y, z, u] := by unfold takes; rw [if_pos hs]; rfl
    rw [e1, e2, e3, hs]
    refine (take_zero b r d c x y z u v w h hv hs).mono fun e w' hh => ⟨hh.1, ?_, hh.2.2⟩
    have := hh.2.1
    simpa [oneIf] using this
  · have hne : (synd [x, y, z, u, v] != 0) = true := by simpa using hs
    rcases hk : bitOf (synd [x, y, z, u, v]) with _ | k
    · have e1 : fixes c [x, y, z, u, v] = false := by unfold fixes; rw [hk]; simp
      have e2 : drops c [x, y, z, u, v] = true := by unfold drops; rw [hk, hne]; simp
      have e3 : takes c [x, y, z, u, v] = [0, 0, 0, 0] := by unfold takes; rw [if_neg hs, e1]; rfl
      rw [e1, e2, e3, hne]
      cases c
      · refine (take_drop3 b r d x y z u v w _ h d0 d1 hv rfl hs hbd.1 hbd.2 hk).mono fun e w' hh => ⟨hh.1, ?_, hh.2.2⟩
        have := hh.2.1
        simpa [oneIf] using this
      · refine (take_drop2 b r d x y z u v w _ h d0 d1 hv rfl hs hbd.1 hbd.2 hk).mono fun e w' hh => ⟨hh.1, ?_, hh.2.2⟩
        have := hh.2.1
        simpa [oneIf] using this
    · cases c
      · have e1 : fixes false [x, y, z, u, v] = true := by unfold fixes; rw [hk, hne]; rfl
        have e2 : drops false [x, y, z, u, v] = false := by unfold drops; rw [hk, hne]; rfl
        have e3 : takes false [x, y, z, u, v] = (flipZ [x, y, z, u, v] k).take 4 := by unfold takes; rw [if_neg hs, e1, hk]; rfl
        rw [e1, e2, e3, hne]
        refine (take_fix b r d x y z u v w _ k h r0 r1 hv rfl hs hbd.1 hbd.2 hk).mono fun e w' hh => ⟨hh.1, ?_, hh.2.2⟩
        have := hh.2.1
        simpa [oneIf] using this
      · have e1 : fixes true [x, y, z, u, v] = false := by unfold fixes; rw [hk, hne]; rfl
        have e2 : drops true [x, y, z, u, v] = true := by unfold drops; rw [hk, hne]; rfl
        have e3 : takes true [x, y, z, u, v] = [0, 0, 0, 0] := by unfold takes; rw [if_neg hs, e1]; rfl
        rw [e1, e2, e3, hne]
        refine (take_drop1 b r d x y z u v w _ k h d0 d1 hv rfl hs hbd.1 hbd.2 hk).mono fun e w' hh => ⟨hh.1, ?_, hh.2.2⟩
        have := hh.2.1
        simpa [oneIf] using this
end Go.Proofs.YtaoagbnhomjkpaaGreat

/- Small words on bytes: laid, appended behind a full slice; a guard that is met. -/
namespace Go.Proofs.YtaoagbnhomjkpaaGreat
set_option linter.unusedVariables false
set_option linter.unusedSimpArgs false
open Go.RowKit
set_option maxRecDepth 100000
set_option maxHeartbeats 4000000
/-- bytes in a block that has just been laid. -/
theorem bytes_row {w : World} {g : Nat} {E : TypeId} {fr : Nat × Nat} (zs : List Int) (hg : w.heap[g]? = some (.cells (zs.map (Value.int .u8)).toArray E fr)) (hb : ∀ z ∈ zs, 0 ≤ z ∧ z < 256) (hm : zs.length ≤ 140737488355328) :
    BytesAt w (some ⟨g, 0, none⟩) zs.length zs := by
  refine ⟨rfl, hm, fun k => ?_, fun _ => ⟨g, 0, rfl, ?_, fun k hk => ?_⟩⟩
  · by_cases hk : k < zs.length
    · rw [List.getElem?_eq_getElem hk]; exact hb _ (List.getElem_mem hk)
    · rw [List.getElem?_eq_none (by omega)]; simp
  · rcases Nat.lt_or_ge g w.heap.size with h' | h'
    · exact h'
    · simp [Array.getElem?_eq_none h'] at hg
  · rw [Nat.zero_add, cell_of_row w g k _ _ _ hg]
    simp [hk]
theorem bytes_lit {w : World} {E : TypeId} {fr : Nat × Nat} (zs : List Int) (hb : ∀ z ∈ zs, 0 ≤ z ∧ z < 256) (hm : zs.length ≤ 140737488355328) : BytesAt (w.alloc (.cells (zs.map (Value.int .u8)).toArray E fr)) (some ⟨w.heap.size, 0, none⟩) zs.length zs :=
  bytes_row zs (heap_alloc_new _ _) hb hm
/-- an operation whose guard is met may be walked as one that has none. -/
theorem wpList_unguard {P : Program} {ops : Array Oper} {Q : Exit → Act → World → Prop} {a : Act} {w : World} {rest : List Oper} {d : Option Nat} {op : Op} {t : TypeId} {p : String} {af : Array Edge} {g : Option (Nat × Bool)}
    (hw : Region.wanted ⟨d, op, t, p, af, g⟩ (yielded ops a.tmps) = true) (h : wpList P ops Q (⟨d, op, t, p, af, none⟩ :: rest) a w) : wpList P ops Q (⟨d, op, t, p, af, g⟩ :: rest) a w := by
  unfold wpList at h ⊢
  rw [if_pos hw]
  rw [if_pos (show Region.wanted ⟨d, op, t, p, af, none⟩ _ = true from rfl)] at h
  exact h
/-- bytes behind a slice that is full. -/
theorem wpList_append_full {w : World} {ops : Array Oper} {rest : List Oper} {o : Oper} {a : Act} {Q : Exit → Act → World → Prop} (hgd : o.guard = none) (s x : Operand)
    (ho : o.op = .call { callee := .builtin .append, args := #[s, x], argTypes := #[36, 36] }) {ad0 : Option Addr} {n cap : Nat} {xs : List Int} (hs : a.eval s = .slice ad0 n cap) (hxs : BytesAt w ad0 n xs) (hn0 : ad0 = none → cap = 0)
    {ad : Option Addr} {m c : Nat} {ys : List Int} (hx : a.eval x = .slice ad m c) (hy : BytesAt w ad m ys) (hm : 0 < m) (hfull : cap < n + m) (hb : n + m ≤ 140737488355328)
    (h : ∀ v' w', OwnB w' w.heap.size v' (n + m) (xs ++ ys) → Below w.heap.size w w' → wpList Tryz.prog ops Q rest (a.put o.dst v') w') : wpList Tryz.prog ops Q (o :: rest) a w := by
  obtain ⟨inf, hin, hi0, hi1, hi2⟩ := info_parts u8Info
  obtain ⟨b, off, rfl, hb1, hc⟩ := hy.cells hm
  have news : ∀ j u, (ys.map (Value.int .u8))[j]? = some u → w.cell? ((⟨b, off, none⟩ : Addr).add j) = some u := by
    intro j u hj
    rw [List.getElem?_map] at hj
    by_cases hjm : j < ys.length
    · rw [List.getElem?_eq_getElem hjm] at hj
      have := hc j (by rw [← hy.length]; exact hjm)
      rw [List.getElem?_eq_getElem hjm] at this
      simp at hj this
      rw [← hj, Go.WideShapes.add_plain]
      exact this
    · rw [List.getElem?_eq_none (by omega)] at hj; simp at hj
  refine wpList_append_grows _ hgd s x 36 ho 5 inf _ 1 1 Tryz.underlying36 hin hi0 hi1 hi2 rfl (by decide) ad0 n cap (xs.map (Value.int .u8)) hs ?_ (by simp [hxs.length]) ?_ ⟨b, off, none⟩ m c (ys.map (Value.int .u8)) hx (by simp [hy.length]) news ?_ hfull (by unfold maxLen; omega) (by omega) ?_
  · intro e
    refine ⟨?_, hn0 e⟩
    rcases Nat.eq_zero_or_pos n with h0 | h0
    · exact h0
    · obtain ⟨_, _, e2, _⟩ := hxs.cells h0
      rw [e] at e2; cases e2
  · intro b' e j u hj
    rw [List.getElem?_map] at hj
    by_cases hjm : j < xs.length
    · obtain ⟨b2, o2, e2, _, hc2⟩ := hxs.cells (by rw [← hxs.length]; omega)
      rw [e] at e2; injection e2 with e2; subst e2
      rw [List.getElem?_eq_getElem hjm] at hj
      have := hc2 j (by rw [← hxs.length]; exact hjm)
      rw [List.getElem?_eq_getElem hjm] at this
      simp at hj this
      rw [← hj, Go.WideShapes.add_plain]
      exact this
    · rw [List.getElem?_eq_none (by omega)] at hj; simp at hj
  · intro u hu
    obtain ⟨z, _, rfl⟩ := List.mem_map.1 hu
    rfl
  · intro v' w' h1 h2
    refine h v' w' ⟨?_, bytes_append hxs.byte hy.byte⟩ (below_grown h2 (fun k hk => by cases hk))
    rw [List.map_append]; exact h1
theorem own_nil {w : World} {base : Nat} {a : Option Addr} {n c : Nat} {zs : List Int} (h : OwnB w base (.slice a n c) n zs) (ha : a = none) : c = 0 := by
  subst ha
  rcases h.1.2 with ⟨h1, _⟩ | ⟨g, cap, cur, h1, _⟩
  · injection h1
  · cases h1
end Go.Proofs.YtaoagbnhomjkpaaGreat

/- The walk of hec.Seal; what the laws of the layer 'hec' begin with. -/
namespace Go.Proofs.YtaoagbnhomjkpaaGreat
set_option linter.unusedVariables false
set_option linter.unusedSimpArgs false
open Go.RowKit
set_option maxRecDepth 100000
set_option maxHeartbeats 4000000
theorem four_at {w : World} {b : Nat} {x y z u : Int} (hb : b < w.heap.size) (h0 : w.cell? ⟨b, 0, none⟩ = some (.int .u8 x)) (h1 : w.cell? ⟨b, 1, none⟩ = some (.int .u8 y)) (h2 : w.cell? ⟨b, 2, none⟩ = some (.int .u8 z)) (h3 : w.cell? ⟨b, 3, none⟩ = some (.int .u8 u))
    (hv : ∀ q ∈ [x, y, z, u], 0 ≤ q ∧ q < 256) : BytesAt w (some ⟨b, 0, none⟩) 4 [x, y, z, u] :=
  ⟨rfl, by omega, fun k => by
    match k with
    | 0 => exact hv x (by simp)
    | 1 => exact hv y (by simp)
    | 2 => exact hv z (by simp)
    | 3 => exact hv u (by simp)
    | k + 4 => simp,
   fun _ => ⟨b, 0, rfl, hb, fun k hk => by
    match k, hk with
    | 0, _ => exact h0
    | 1, _ => exact h1
    | 2, _ => exact h2
    | 3, _ => exact h3⟩⟩
theorem seal_any (x y z u : Int) (w : World) (hv : ∀ q ∈ [x, y, z, u], 0 ≤ q ∧ q < 256) :
    Calls Tryz.prog 58 #[.agg #[.int .u8 x, .int .u8 y, .int .u8 z, .int .u8 u]] w fun e w' => e = .returned (.agg #[.int .u8 x, .int .u8 y, .int .u8 z, .int .u8 u, .int .u8 (e8 [x, y, z, u])]) ∧ Below w.heap.size w w' := by
  obtain ⟨E, hE⟩ : ∃ E, e8 [x, y, z, u] = E := ⟨_, rfl⟩
  rw [hE]
  go_enter Tryz.func58, Tryz.ntmps58
  go_wp2_with (first | (go_at_call 80; (with_reducible refine (eight_at (four_at ?h0 (cell_under ?h1 (cell_top rfl rfl)) (cell_under ?h1 (cell_top rfl rfl)) (cell_under ?h1 (cell_top rfl rfl)) (cell_under ?h1 (cell_top rfl rfl)) hv)).mono ?_); (case h0 => (simp; omega)); (case h1 => (simp; done)); rw [hE]; rintro e w1 ⟨rfl, hb_w1⟩; have hs_w1 := hb_w1.size; (try simp at hs_w1); have q0 : w1.cell? ⟨w.heap.size, 0, none⟩ = some (.int .u8 x) := (by (repeat (first | (with_reducible assumption) | ((with_reducible refine cell_top ?_ rfl); first | (with_reducible rfl) | (simp; done)) | (with_reducible apply cell_drew) | (with_reducible apply cell_drewN) | ((with_reducible apply cell_keep); focus (with_reducible assumption)) | (with_reducible refine cell_keep (Aft.below _) ?_) | (with_reducible apply cell_set) | ((with_reducible apply cell_off); focus (decide)) | ((with_reducible apply cell_beside); focus (first | omega | (simp; done) | (simp; omega))) | ((with_reducible apply cell_under); focus (first | omega | (simp; done) | (simp; omega)))))); have q1 : w1.cell? ⟨w.heap.size, 1, none⟩ = some (.int .u8 y) := (by (repeat (first | (with_reducible assumption) | ((with_reducible refine cell_top ?_ rfl); first | (with_reducible rfl) | (simp; done)) | (with_reducible apply cell_drew) | (with_reducible apply cell_drewN) | ((with_reducible apply cell_keep); focus (with_reducible assumption)) | (with_reducible refine cell_keep (Aft.below _) ?_) | (with_reducible apply cell_set) | ((with_reducible apply cell_off); focus (decide)) | ((with_reducible apply cell_beside); focus (first | omega | (simp; done) | (simp; omega))) | ((with_reducible apply cell_under); focus (first | omega | (simp; done) | (simp; omega)))))); have q2 : w1.cell? ⟨w.heap.size, 2, none⟩ = some (.int .u8 z) := (by (repeat (first | (with_reducible assumption) | ((with_reducible refine cell_top ?_ rfl); first | (with_reducible rfl) | (simp; done)) | (with_reducible apply cell_drew) | (with_reducible apply cell_drewN) | ((with_reducible apply cell_keep); focus (with_reducible assumption)) | (with_reducible refine cell_keep (Aft.below _) ?_) | (with_reducible apply cell_set) | ((with_reducible apply cell_off); focus (decide)) | ((with_reducible apply cell_beside); focus (first | omega | (simp; done) | (simp; omega))) | ((with_reducible apply cell_under); focus (first | omega | (simp; done) | (simp; omega)))))); have q3 : w1.cell? ⟨w.heap.size, 3, none⟩ = some (.int .u8 u) := (by (repeat (first | (with_reducible assumption) | ((with_reducible refine cell_top ?_ rfl); first | (with_reducible rfl) | (simp; done)) | (with_reducible apply cell_drew) | (with_reducible apply cell_drewN) | ((with_reducible apply cell_keep); focus (with_reducible assumption)) | (with_reducible refine cell_keep (Aft.below _) ?_) | (with_reducible apply cell_set) | ((with_reducible apply cell_off); focus (decide)) | ((with_reducible apply cell_beside); focus (first | omega | (simp; done) | (simp; omega))) | ((with_reducible apply cell_under); focus (first | omega | (simp; done) | (simp; omega)))))); have p0 : w1.cell? ⟨w.heap.size + 1, 0, none⟩ = some (.int .u8 0) := (by (repeat (first | (with_reducible assumption) | ((with_reducible refine cell_top ?_ rfl); first | (with_reducible rfl) | (simp; done)) | (with_reducible apply cell_drew) | (with_reducible apply cell_drewN) | ((with_reducible apply cell_keep); focus (with_reducible assumption)) | (with_reducible refine cell_keep (Aft.below _) ?_) | (with_reducible apply cell_set) | ((with_reducible apply cell_off); focus (decide)) | ((with_reducible apply cell_beside); focus (first | omega | (simp; done) | (simp; omega))) | ((with_reducible apply cell_under); focus (first | omega | (simp; done) | (simp; omega)))))); have p1 : w1.cell? ⟨w.heap.size + 1, 1, none⟩ = some (.int .u8 0) := (by (repeat (first | (with_reducible assumption) | ((with_reducible refine cell_top ?_ rfl); first | (with_reducible rfl) | (simp; done)) | (with_reducible apply cell_drew) | (with_reducible apply cell_drewN) | ((with_reducible apply cell_keep); focus (with_reducible assumption)) | (with_reducible refine cell_keep (Aft.below _) ?_) | (with_reducible apply cell_set) | ((with_reducible apply cell_off); focus (decide)) | ((with_reducible apply cell_beside); focus (first | omega | (simp; done) | (simp; omega))) | ((with_reducible apply cell_under); focus (first | omega | (simp; done) | (simp; omega)))))); have p2 : w1.cell? ⟨w.heap.size + 1, 2, none⟩ = some (.int .u8 0) := (by (repeat (first | (with_reducible assumption) | ((with_reducible refine cell_top ?_ rfl); first | (with_reducible rfl) | (simp; done)) | (with_reducible apply cell_drew) | (with_reducible apply cell_drewN) | ((with_reducible apply cell_keep); focus (with_reducible assumption)) | (with_reducible refine cell_keep (Aft.below _) ?_) | (with_reducible apply cell_set) | ((with_reducible apply cell_off); focus (decide)) | ((with_reducible apply cell_beside); focus (first | omega | (simp; done) | (simp; omega))) | ((with_reducible apply cell_under); focus (first | omega | (simp; done) | (simp; omega)))))); have p3 : w1.cell? ⟨w.heap.size + 1, 3, none⟩ = some (.int .u8 0) := (by (repeat (first | (with_reducible assumption) | ((with_reducible refine cell_top ?_ rfl); first | (with_reducible rfl) | (simp; done)) | (with_reducible apply cell_drew) | (with_reducible apply cell_drewN) | ((with_reducible apply cell_keep); focus (with_reducible assumption)) | (with_reducible refine cell_keep (Aft.below _) ?_) | (with_reducible apply cell_set) | ((with_reducible apply cell_off); focus (decide)) | ((with_reducible apply cell_beside); focus (first | omega | (simp; done) | (simp; omega))) | ((with_reducible apply cell_under); focus (first | omega | (simp; done) | (simp; omega)))))); have p4 : w1.cell? ⟨w.heap.size + 1, 4, none⟩ = some (.int .u8 0) := (by (repeat (first | (with_reducible assumption) | ((with_reducible refine cell_top ?_ rfl); first | (with_reducible rfl) | (simp; done)) | (with_reducible apply cell_drew) | (with_reducible apply cell_drewN) | ((with_reducible apply cell_keep); focus (with_reducible assumption)) | (with_reducible refine cell_keep (Aft.below _) ?_) | (with_reducible apply cell_set) | ((with_reducible apply cell_off); focus (decide)) | ((with_reducible apply cell_beside); focus (first | omega | (simp; done) | (simp; omega))) | ((with_reducible apply cell_under); focus (first | omega | (simp; done) | (simp; omega)))))); have pf : ∀ o, w1.frozen? ⟨w.heap.size + 1, o, none⟩ = false := (fun o => (hb_w1.frozen (p := ⟨w.heap.size + 1, o, none⟩) (by simp)).trans (frozen_top (by simp))); have pf0 := pf 0; have pf1 := pf 1; have pf2 := pf 2; have pf3 := pf 3; have pf4 := pf 4))
  have hgn : w1.heap.size ≠ w.heap.size := by omega
  obtain ⟨w4, hdr⟩ : ∃ w4, w4 = (w1.alloc (.cells #[.int .u8 0, .int .u8 0, .int .u8 0, .int .u8 0, .int .u8 E] 130)).drew := ⟨_, rfl⟩
  have hg4 : w4.heap[w1.heap.size]? = some (.cells #[.int .u8 0, .int .u8 0, .int .u8 0, .int .u8 0, .int .u8 E] 130) := by rw [hdr]; exact heap_alloc_new w1 _
  have hB4 : Below w.heap.size w w4 := by rw [hdr]; (repeat' (first | (with_reducible exact Below.refl _ _) | (with_reducible assumption) | (with_reducible refine below_drewN ?_ _) | (with_reducible refine Below.drew ?_) | ((with_reducible refine Below.alloc ?_ ?_ _); (rotate_left; focus (first | omega | (simp; done) | (simp; omega)))) | ((with_reducible refine Below.setCell ?_ ?_ _); (rotate_left; focus (first | omega | (simp; done) | (simp; omega)))) | (with_reducible refine Below.grown ?_ (by assumption) (by first | omega | (simp; omega)) (by simp [Value.ownBlock]; try omega)) | (with_reducible refine below_then ?_ (Aft.below _)) | (with_reducible apply below_then; rotate_left; assumption)))
  have hs4 : w4.heap.size = w1.heap.size + 1 := by rw [hdr]; simp
  have Q0 : w4.cell? ⟨w.heap.size, 0, none⟩ = some (.int .u8 x) := by rw [hdr]; (repeat (first | (with_reducible assumption) | ((with_reducible refine cell_top ?_ rfl); first | (with_reducible rfl) | (simp; done)) | (with_reducible apply cell_drew) | (with_reducible apply cell_drewN) | ((with_reducible apply cell_keep); focus (with_reducible assumption)) | (with_reducible refine cell_keep (Aft.below _) ?_) | (with_reducible apply cell_set) | ((with_reducible apply cell_off); focus (decide)) | ((with_reducible apply cell_beside); focus (first | omega | (simp; done) | (simp; omega))) | ((with_reducible apply cell_under); focus (first | omega | (simp; done) | (simp; omega)))))
  have Q1 : w4.cell? ⟨w.heap.size, 1, none⟩ = some (.int .u8 y) := by rw [hdr]; (repeat (first | (with_reducible assumption) | ((with_reducible refine cell_top ?_ rfl); first | (with_reducible rfl) | (simp; done)) | (with_reducible apply cell_drew) | (with_reducible apply cell_drewN) | ((with_reducible apply cell_keep); focus (with_reducible assumption)) | (with_reducible refine cell_keep (Aft.below _) ?_) | (with_reducible apply cell_set) | ((with_reducible apply cell_off); focus (decide)) | ((with_reducible apply cell_beside); focus (first | omega | (simp; done) | (simp; omega))) | ((with_reducible apply cell_under); focus (first | omega | (simp; done) | (simp; omega)))))
  have Q2 : w4.cell? ⟨w.heap.size, 2, none⟩ = some (.int .u8 z) := by rw [hdr]; (repeat (first | (with_reducible assumption) | ((with_reducible refine cell_top ?_ rfl); first | (with_reducible rfl) | (simp; done)) | (with_reducible apply cell_drew) | (with_reducible apply cell_drewN) | ((with_reducible apply cell_keep); focus (with_reducible assumption)) | (with_reducible refine cell_keep (Aft.below _) ?_) | (with_reducible apply cell_set) | ((with_reducible apply cell_off); focus (decide)) | ((with_reducible apply cell_beside); focus (first | omega | (simp; done) | (simp; omega))) | ((with_reducible apply cell_under); focus (first | omega | (simp; done) | (simp; omega)))))
  have Q3 : w4.cell? ⟨w.heap.size, 3, none⟩ = some (.int .u8 u) := by rw [hdr]; (repeat (first | (with_reducible assumption) | ((with_reducible refine cell_top ?_ rfl); first | (with_reducible rfl) | (simp; done)) | (with_reducible apply cell_drew) | (with_reducible apply cell_drewN) | ((with_reducible apply cell_keep); focus (with_reducible assumption)) | (with_reducible refine cell_keep (Aft.below _) ?_) | (with_reducible apply cell_set) | ((with_reducible apply cell_off); focus (decide)) | ((with_reducible apply cell_beside); focus (first | omega | (simp; done) | (simp; omega))) | ((with_reducible apply cell_under); focus (first | omega | (simp; done) | (simp; omega)))))
  have P0 : w4.cell? ⟨w.heap.size + 1, 0, none⟩ = some (.int .u8 0) := by rw [hdr]; (repeat (first | (with_reducible assumption) | ((with_reducible refine cell_top ?_ rfl); first | (with_reducible rfl) | (simp; done)) | (with_reducible apply cell_drew) | (with_reducible apply cell_drewN) | ((with_reducible apply cell_keep); focus (with_reducible assumption)) | (with_reducible refine cell_keep (Aft.below _) ?_) | (with_reducible apply cell_set) | ((with_reducible apply cell_off); focus (decide)) | ((with_reducible apply cell_beside); focus (first | omega | (simp; done) | (simp; omega))) | ((with_reducible apply cell_under); focus (first | omega | (simp; done) | (simp; omega)))))
  have P1 : w4.cell? ⟨w.heap.size + 1, 1, none⟩ = some (.int .u8 0) := by rw [hdr]; (repeat (first | (with_reducible assumption) | ((with_reducible refine cell_top ?_ rfl); first | (with_reducible rfl) | (simp; done)) | (with_reducible apply cell_drew) | (with_reducible apply cell_drewN) | ((with_reducible apply cell_keep); focus (with_reducible assumption)) | (with_reducible refine cell_keep (Aft.below _) ?_) | (with_reducible apply cell_set) | ((with_reducible apply cell_off); focus (decide)) | ((with_reducible apply cell_beside); focus (first | omega | (simp; done) | (simp; omega))) | ((with_reducible apply cell_under); focus (first | omega | (simp; done) | (simp; omega)))))
  have P2 : w4.cell? ⟨w.heap.size + 1, 2, none⟩ = some (.int .u8 0) := by rw [hdr]; (repeat (first | (with_reducible assumption) | ((with_reducible refine cell_top ?_ rfl); first | (with_reducible rfl) | (simp; done)) | (with_reducible apply cell_drew) | (with_reducible apply cell_drewN) | ((with_reducible apply cell_keep); focus (with_reducible assumption)) | (with_reducible refine cell_keep (Aft.below _) ?_) | (with_reducible apply cell_set) | ((with_reducible apply cell_off); focus (decide)) | ((with_reducible apply cell_beside); focus (first | omega | (simp; done) | (simp; omega))) | ((with_reducible apply cell_under); focus (first | omega | (simp; done) | (simp; omega)))))
  have P3 : w4.cell? ⟨w.heap.size + 1, 3, none⟩ = some (.int .u8 0) := by rw [hdr]; (repeat (first | (with_reducible assumption) | ((with_reducible refine cell_top ?_ rfl); first | (with_reducible rfl) | (simp; done)) | (with_reducible apply cell_drew) | (with_reducible apply cell_drewN) | ((with_reducible apply cell_keep); focus (with_reducible assumption)) | (with_reducible refine cell_keep (Aft.below _) ?_) | (with_reducible apply cell_set) | ((with_reducible apply cell_off); focus (decide)) | ((with_reducible apply cell_beside); focus (first | omega | (simp; done) | (simp; omega))) | ((with_reducible apply cell_under); focus (first | omega | (simp; done) | (simp; omega)))))
  have P4 : w4.cell? ⟨w.heap.size + 1, 4, none⟩ = some (.int .u8 0) := by rw [hdr]; (repeat (first | (with_reducible assumption) | ((with_reducible refine cell_top ?_ rfl); first | (with_reducible rfl) | (simp; done)) | (with_reducible apply cell_drew) | (with_reducible apply cell_drewN) | ((with_reducible apply cell_keep); focus (with_reducible assumption)) | (with_reducible refine cell_keep (Aft.below _) ?_) | (with_reducible apply cell_set) | ((with_reducible apply cell_off); focus (decide)) | ((with_reducible apply cell_beside); focus (first | omega | (simp; done) | (simp; omega))) | ((with_reducible apply cell_under); focus (first | omega | (simp; done) | (simp; omega)))))
  have PF : ∀ o, w4.frozen? ⟨w.heap.size + 1, o, none⟩ = false := fun o => by
    rw [hdr]
    exact (World.frozen?_alloc_past _ _ _ (by omega)).trans (pf o)
  have hcp := run_copy_row (P := Tryz.prog) w4 36 36 3 5 w1.heap.size 0 5 5 ⟨w.heap.size, 0, none⟩ 4 4 #[.int .u8 0, .int .u8 0, .int .u8 0, .int .u8 0, .int .u8 E] 130 [.int .u8 x, .int .u8 y, .int .u8 z, .int .u8 u] Tryz.underlying36 (by kernel_rfl) hg4 rfl (fun j v hv => by
    rw [Go.WideShapes.add_plain]
    match j, hv with
    | 0, hv => simp at hv; rw [← hv]; exact Q0
    | 1, hv => simp at hv; rw [← hv]; exact Q1
    | 2, hv => simp at hv; rw [← hv]; exact Q2
    | 3, hv => simp at hv; rw [← hv]; exact Q3
    | j + 4, hv => simp at hv) (by show 4 ≤ 5; decide) (fun v hv => by simp at hv; rcases hv with rfl | rfl | rfl | rfl <;> rfl)
  obtain ⟨w5, hw5⟩ : ∃ w5, w4.setRow w1.heap.size (Array.toList #[Value.int .u8 0, .int .u8 0, .int .u8 0, .int .u8 0, .int .u8 E] |>.take 0 |>.append [.int .u8 x, .int .u8 y, .int .u8 z, .int .u8 u] |>.append (List.drop (0 + 4) (Array.toList #[Value.int .u8 0, .int .u8 0, .int .u8 0, .int .u8 0, .int .u8 E]))).toArray = w5 := ⟨_, rfl⟩
  replace hcp : (Builtin.copy_ #[36, 36] 3 #[.slice (some ⟨w1.heap.size, 0, none⟩) 5 5, .slice (some ⟨w.heap.size, 0, none⟩) 4 4]).run Tryz.prog w4 = .ok (.int .i64 4) w5 := by rw [← hw5]; exact hcp
  have hg5 : w5.heap[w1.heap.size]? = some (.cells #[.int .u8 x, .int .u8 y, .int .u8 z, .int .u8 u, .int .u8 E] 130) := by rw [← hw5]; exact setRow_heap w4 _ _ _ _ _ hg4
  have ho5 : ∀ k, k ≠ w1.heap.size → w5.heap[k]? = w4.heap[k]? := fun k hk => by rw [← hw5]; exact setRow_other w4 _ k _ hk
  have hs5 : w5.heap.size = w4.heap.size := by rw [← hw5]; simp
  have hB5 : Below w.heap.size w w5 := ⟨by rw [← hw5]; exact hB4.os, by rw [← hw5]; exact hB4.tape, by rw [← hw5]; exact hB4.output, by rw [hs5]; exact hB4.size, fun k hk => (ho5 k (by omega)).trans (hB4.block k hk)⟩
  have hp5 : ∀ o, w5.cell? ⟨w.heap.size + 1, o, none⟩ = w4.cell? ⟨w.heap.size + 1, o, none⟩ := fun o => World.cell?_of_block (ho5 _ (by show w.heap.size + 1 ≠ _; omega))
  have P50 := (hp5 0).trans P0
  have P51 := (hp5 1).trans P1
  have P52 := (hp5 2).trans P2
  have P53 := (hp5 3).trans P3
  have P54 := (hp5 4).trans P4
  have PF5 : ∀ o, w5.frozen? ⟨w.heap.size + 1, o, none⟩ = false := fun o => (World.frozen?_of_block (ho5 _ (by show w.heap.size + 1 ≠ _; omega))).trans (PF o)
  have PF50 := PF5 0
  have PF51 := PF5 1
  have PF52 := PF5 2
  have PF53 := PF5 3
  have PF54 := PF5 4
  have G0 : w5.cell? ⟨w1.heap.size, 0, none⟩ = some (.int .u8 x) := by rw [cell_of_row w5 _ _ _ _ _ hg5]; rfl
  have G1 : w5.cell? ⟨w1.heap.size, 1, none⟩ = some (.int .u8 y) := by rw [cell_of_row w5 _ _ _ _ _ hg5]; rfl
  have G2 : w5.cell? ⟨w1.heap.size, 2, none⟩ = some (.int .u8 z) := by rw [cell_of_row w5 _ _ _ _ _ hg5]; rfl
  have G3 : w5.cell? ⟨w1.heap.size, 3, none⟩ = some (.int .u8 u) := by rw [cell_of_row w5 _ _ _ _ _ hg5]; rfl
  have G4 : w5.cell? ⟨w1.heap.size, 4, none⟩ = some (.int .u8 E) := by rw [cell_of_row w5 _ _ _ _ _ hg5]; rfl
  clear hw5 hg5 ho5 hp5 hg4 hB4
  (refine region_tail_q 2 (by kernel_rfl) (by kernel_rfl) rfl ?_); (rw [← hdr]); (clear hdr); (simp only [List.take_succ_cons, List.take_zero, List.drop_succ_cons, List.drop_zero]); (repeat (go_big_quiet_step (fail))); (refine wpQuiet_nil ?_)
  go_wp2
  refine bodyPost_ret (results_c1 rfl _ _ rfl (load_five ?_ ?_ ?_ ?_ ?_)) rfl ⟨rfl, ?_⟩
  · (repeat (first | (with_reducible assumption) | ((with_reducible refine cell_top ?_ rfl); first | (with_reducible rfl) | (simp; done)) | (with_reducible apply cell_drew) | (with_reducible apply cell_drewN) | (with_reducible apply cell_set) | ((with_reducible apply cell_off); focus (decide)) | ((with_reducible apply cell_beside); focus (first | omega | (simp; done) | (simp; omega))) | ((with_reducible apply cell_under); focus (first | (simp; done) | (simp; omega)))))
  · (repeat (first | (with_reducible assumption) | ((with_reducible refine cell_top ?_ rfl); first | (with_reducible rfl) | (simp; done)) | (with_reducible apply cell_drew) | (with_reducible apply cell_drewN) | (with_reducible apply cell_set) | ((with_reducible apply cell_off); focus (decide)) | ((with_reducible apply cell_beside); focus (first | omega | (simp; done) | (simp; omega))) | ((with_reducible apply cell_under); focus (first | (simp; done) | (simp; omega)))))
  · (repeat (first | (with_reducible assumption) | ((with_reducible refine cell_top ?_ rfl); first | (with_reducible rfl) | (simp; done)) | (with_reducible apply cell_drew) | (with_reducible apply cell_drewN) | (with_reducible apply cell_set) | ((with_reducible apply cell_off); focus (decide)) | ((with_reducible apply cell_beside); focus (first | omega | (simp; done) | (simp; omega))) | ((with_reducible apply cell_under); focus (first | (simp; done) | (simp; omega)))))
  · (repeat (first | (with_reducible assumption) | ((with_reducible refine cell_top ?_ rfl); first | (with_reducible rfl) | (simp; done)) | (with_reducible apply cell_drew) | (with_reducible apply cell_drewN) | (with_reducible apply cell_set) | ((with_reducible apply cell_off); focus (decide)) | ((with_reducible apply cell_beside); focus (first | omega | (simp; done) | (simp; omega))) | ((with_reducible apply cell_under); focus (first | (simp; done) | (simp; omega)))))
  · (repeat (first | (with_reducible assumption) | ((with_reducible refine cell_top ?_ rfl); first | (with_reducible rfl) | (simp; done)) | (with_reducible apply cell_drew) | (with_reducible apply cell_drewN) | (with_reducible apply cell_set) | ((with_reducible apply cell_off); focus (decide)) | ((with_reducible apply cell_beside); focus (first | omega | (simp; done) | (simp; omega))) | ((with_reducible apply cell_under); focus (first | (simp; done) | (simp; omega)))))
  · (repeat' (first | (with_reducible exact Below.refl _ _) | (with_reducible assumption) | (with_reducible refine below_drewN ?_ _) | (with_reducible refine Below.drew ?_) | ((with_reducible refine Below.alloc ?_ ?_ _); (rotate_left; focus (first | omega | (simp; done) | (simp; omega)))) | ((with_reducible refine Below.setCell ?_ ?_ _); (rotate_left; focus (first | omega | (simp; done) | (simp; omega)))) | (with_reducible refine Below.grown ?_ (by assumption) (by first | omega | (simp; omega)) (by simp [Value.ownBlock]; try omega)) | (with_reducible refine below_then ?_ (Aft.below _)) | (with_reducible apply below_then; rotate_left; assumption)))
end Go.Proofs.YtaoagbnhomjkpaaGreat
