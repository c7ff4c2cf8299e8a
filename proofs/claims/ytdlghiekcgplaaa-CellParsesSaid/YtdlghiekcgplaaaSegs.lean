/- A region that draws its order, in which a call hands back memory of its own: one walk, in an order of ours. Quiet operations go by the kit's own quiet walk; a loose one is a call that is met in whatever world has come by then. -/
import Derived.Test.YtdlghiekcgplaaaKit2
import Derived.BigCall
namespace Go.Proofs.Ytdlghiekcgplaaa
set_option linter.unusedVariables false
set_option linter.unusedSimpArgs false
open Go.RowKit
section
variable {P : Program} {ops : Array Oper} {md : Region.Mode}
/-- a world behind w0: nothing that was there has turned. -/
def Ge (w0 : World) : World → Prop := fun w => ∃ g : Aft w0, w = g.w
theorem Ge.of {w0 w : World} (h : Below w0.heap.size w0 w) : Ge w0 w := ⟨⟨w, h⟩, rfl⟩
theorem Ge.below {w0 w : World} (h : Ge w0 w) : Below w0.heap.size w0 w := by obtain ⟨g, rfl⟩ := h; exact g.below
theorem Ge.refl (w0 : World) : Ge w0 w0 := Ge.of (Below.refl _ _)
theorem Ge.trans {a b c : World} (h : Ge a b) (k : Ge b c) : Ge a c := Ge.of (below_then h.below k.below)
/-- an operation that enters no function. -/
def plainOp : Op → Bool
  | .move _ | .assign _ | .pick .. | .load .. | .binOp .. | .unOp .. | .convert .. | .fieldAddr .. | .field .. | .indexAddr .. | .index .. | .extract .. | .slice .. => true
  | _ => false
theorem sem_bind_value {s : Sem Value} {w w' : World} {n : Next} (h : (do pure (Next.value (← s)) : Sem Next).run P w = .ok n w') : ∃ u, n = .value u := by
  rw [Sem.run_bind] at h
  generalize s.run P w = r at h
  cases r with
  | halt x w1 => simp at h
  | ok u w1 => simp [go_sem] at h; exact ⟨u, h.1.symm⟩
theorem plain_value {o : Oper} {ρ : Operand → Value} {w w' : World} {n : Next} (hp : plainOp o.op = true) (h : (execOp ρ o).run P w = .ok n w') : ∃ u, n = .value u := by
  unfold execOp at h
  cases ho : o.op <;> simp only [ho, plainOp, Bool.false_eq_true] at hp h
  case move x => simp [go_sem] at h; exact ⟨_, h.1.symm⟩
  case assign x => simp [go_sem] at h; exact ⟨_, h.1.symm⟩
  case pick c a b =>
    rw [Sem.run_bind] at h
    generalize Sem.run P (asBool (ρ c)) w = r at h
    cases r with
    | halt x w1 => simp at h
    | ok u w1 => simp [go_sem] at h; exact ⟨_, h.1.symm⟩
  all_goals exact sem_bind_value h
theorem quiet_down {o : Oper} {a : Act} {U U' : World → Prop} {v : Value} {w : World} (hp : plainOp o.op = true) (h : o.quietAt P a U w v) : o.quietAt P a U' w v := by
  unfold Oper.quietAt at *
  generalize hr : (execOp a.eval o).run P w = r at *
  cases r with
  | halt x w' => exact h.elim
  | ok n w' =>
    obtain ⟨u, rfl⟩ := plain_value hp hr
    exact h
theorem yields_down {o : Oper} {a : Act} {v : Value} {w0 w1 : World} (hp : plainOp o.op = true) (hg : Ge w0 w1) (h : YieldsIn P ops (Ge w0) o v a) : YieldsIn P ops (Ge w1) o v a := by
  rcases h with ⟨hw, h⟩ | h
  · exact .inl ⟨hw, fun w hw' => quiet_down hp (h w (hg.trans hw'))⟩
  · exact .inr h
/-- what a loose operation is asked. -/
def looseUpon (P : Program) (o : Oper) (a : Act) (next : Act → World → Prop) : Result Next → Prop
  | .ok (.value v) w' => next (a.put o.dst v) w'
  | .ok (.enter f args) w' => Calls P f args w' fun e w'' => ∃ v, e = .returned v ∧ next (a.put o.dst v) w''
  | _ => False
def looseAt (P : Program) (o : Oper) (a : Act) (w : World) (next : Act → World → Prop) : Prop := looseUpon P o a next ((execOp a.eval o).run P w)
theorem loose_mono {o : Oper} {a : Act} {w : World} {K K' : Act → World → Prop} (hk : ∀ a w, K a w → K' a w) (h : looseAt P o a w K) : looseAt P o a w K' := by
  unfold looseAt at *
  generalize (execOp a.eval o).run P w = r at *
  cases r with
  | halt x w' => exact h
  | ok n w' =>
    cases n <;> simp only [looseUpon] at h ⊢
    case value u => exact hk _ _ h
    case enter f args => exact h.mono fun e w'' ⟨v, he, hn⟩ => ⟨v, he, hk _ _ hn⟩
theorem loose_wp {o : Oper} {a : Act} {w : World} {K : Act → World → Prop} {Q : Exit → Act → World → Prop} (h : looseAt P o a w K) : o.wp P a w K Q := by
  unfold looseAt at h
  unfold Oper.wp
  generalize (execOp a.eval o).run P w = r at *
  cases r with
  | halt x w' => exact h.elim
  | ok n w' =>
    cases n <;> simp only [looseUpon] at h <;> simp only [Oper.upon]
    case value u => exact h
    case enter f args => exact h.mono fun e w'' ⟨v, he, hn⟩ => by subst he; exact hn
/-- operation number i: quiet, or a loose one. -/
def sOp (P : Program) (ops : Array Oper) (loose : Nat → Bool) (w0 : World) (i : Nat) (K : World → Act → Prop) (a : Act) : Prop :=
  match ops[i]? with
  | none => K w0 a
  | some o => if Region.wanted o (yielded ops a.tmps) then o.quiet P a (Ge w0) (K w0) ∨ (loose i = true ∧ ∀ w, Ge w0 w → looseAt P o a w fun a' w' => Ge w w' ∧ K w' a') else K w0 (a.put o.dst undef)
theorem sOp_mono {loose : Nat → Bool} {i : Nat} {a : Act} {w0 : World} {K K' : World → Act → Prop} (h : ∀ w1 a, Ge w0 w1 → K w1 a → K' w1 a) (hh : sOp P ops loose w0 i K a) : sOp P ops loose w0 i K' a := by
  unfold sOp at *
  split
  · exact h _ _ (Ge.refl _) (by simpa [*] using hh)
  · rename_i o ho
    simp only [ho] at hh
    split
    · rename_i hw
      simp only [hw, if_true] at hh
      rcases hh with hh | ⟨hl, hh⟩
      · exact .inl (Oper.quiet_mono (fun a => h w0 a (Ge.refl _)) hh)
      · exact .inr ⟨hl, fun w hw' => loose_mono (fun a' w' ⟨h1, h2⟩ => ⟨h1, h _ _ (hw'.trans h1) h2⟩) (hh w hw')⟩
    · rename_i hw; simp only [hw] at hh; exact h _ _ (Ge.refl _) hh
def sAny (P : Program) (md : Region.Mode) (ops : Array Oper) (loose : Nat → Bool) (Q : World → Act → Prop) : Nat → Array Bool → World → Act → Prop
  | 0, listed, w0, a => Region.ready md ops listed = [] ∧ Q w0 a
  | fuel + 1, listed, w0, a =>
    (Region.ready md ops listed = [] → Q w0 a) ∧
    ∀ i ∈ Region.ready md ops listed, sOp P ops loose w0 i (sAny P md ops loose Q fuel (listed.setIfInBounds i true)) a
theorem wpOp_of_sOp {loose : Nat → Bool} {i : Nat} {a : Act} {w0 w : World} {K : World → Act → Prop} {K' : Act → World → Prop} {Q' : Exit → Act → World → Prop} (hC : Ge w0 w) (h : ∀ w1 a w', Ge w0 w1 → Ge w1 w' → K w1 a → K' a w') (hh : sOp P ops loose w0 i K a) : wpOp P ops Q' i K' a w := by
  unfold sOp at hh
  unfold wpOp
  split
  · rename_i ho; simp only [ho] at hh; exact h _ _ _ (Ge.refl _) hC hh
  · rename_i o ho
    simp only [ho] at hh
    split
    · rename_i hw
      simp only [hw, if_true] at hh
      rcases hh with hh | ⟨hl, hh⟩
      · exact .inl (Oper.wp_of_quiet hC (fun a w' hw' hk => h _ _ _ (Ge.refl _) hw' hk) hh)
      · exact .inl (loose_wp (loose_mono (fun a' w' ⟨h1, h2⟩ => h _ _ _ (hC.trans h1) (Ge.refl _) h2) (hh w hC)))
    · rename_i hw; simp only [hw] at hh; exact h _ _ _ (Ge.refl _) hC hh
theorem wpAny_of_s {loose : Nat → Bool} {Q : World → Act → Prop} {Q' : Exit → Act → World → Prop} (hQ : ∀ w0 a w, Ge w0 w → Q w0 a → Q' .normal a w) : ∀ (fuel : Nat) (listed : Array Bool) (w0 : World) (a : Act) (w : World), Ge w0 w →
    sAny P md ops loose Q fuel listed w0 a → wpAny P md ops Q' fuel listed a w
  | 0, _, _, _, _, hw, h => ⟨h.1, hQ _ _ _ hw h.2⟩
  | fuel + 1, _, _, _, _, hw, h => ⟨fun h0 => hQ _ _ _ hw (h.1 h0), fun i hi => wpOp_of_sOp hw (fun w1 a' w' _ hw' => wpAny_of_s hQ fuel _ w1 a' w' hw') (h.2 i hi)⟩
theorem yields_sOp {loose : Nat → Bool} {i : Nat} {o : Oper} {v : Value} {w0 : World} {a : Act} (hi : ops[i]? = some o) (hy : YieldsIn P ops (Ge w0) o v a) {K : World → Act → Prop} (h : K w0 (a.put o.dst v)) : sOp P ops loose w0 i K a := by
  unfold sOp
  simp only [hi]
  rcases hy with ⟨hw, hv⟩ | ⟨hw, rfl⟩
  · simp only [hw, if_true]; exact .inl ⟨v, hv, h⟩
  · simp only [hw, Bool.false_eq_true, if_false]; exact h
theorem sOp_put {loose : Nat → Bool} {j : Nat} {oi oj : Oper} {v : Value} {w0 : World} (hj : ops[j]? = some oj) (hap : oi.apart ops oj = true)
    (hsi : ∀ cs b, oi.op ≠ .select cs b) (hsj : ∀ cs b, oj.op ≠ .select cs b) (hpl : loose j = true → plainOp oi.op = true) {K : World → Act → Prop} {a : Act}
    (hy : YieldsIn P ops (Ge w0) oi v a) (h : sOp P ops loose w0 j K (a.put oi.dst v)) :
    sOp P ops loose w0 j (fun w1 a' => YieldsIn P ops (Ge w1) oi v a' ∧ K w1 (a'.put oi.dst v)) a := by
  obtain ⟨h1, h2, h3⟩ := Oper.apart_spec hap
  have keep : ∀ (w1 : World) (a : Act), YieldsIn P ops (Ge w1) oi v a → ∀ u, YieldsIn P ops (Ge w1) oi v (a.put oj.dst u) := fun w1 a hy u =>
    hy.of_same (execOp_put oi hsi a oj.dst u h3) (wanted_put oi a oj.dst u h3)
  unfold sOp at *
  simp only [hj] at *
  rw [wanted_put oj a oi.dst v h1] at h
  split
  · rename_i hw
    simp only [hw, if_true] at h
    rcases h with h | ⟨hl, h⟩
    · obtain ⟨u, hu, hn⟩ := h
      refine .inl ⟨u, fun w hw' => ?_, keep _ a hy u, by rw [← Act.put_comm a v u h2]; exact hn⟩
      have := hu w hw'
      unfold Oper.quietAt at *
      rwa [execOp_put oj hsj a oi.dst v h1] at this
    · refine .inr ⟨hl, fun w hw' => ?_⟩
      have h4 := h w hw'
      unfold looseAt at *
      rw [execOp_put oj hsj a oi.dst v h1] at h4
      generalize (execOp a.eval oj).run P w = r at *
      cases r with
      | halt x w' => exact h4
      | ok n w' =>
        cases n <;> simp only [looseUpon] at h4 ⊢
        case value u => exact ⟨h4.1, keep _ a (yields_down (hpl hl) (hw'.trans h4.1) hy) u, by rw [← Act.put_comm a v u h2]; exact h4.2⟩
        case enter f args => exact h4.mono fun e w'' ⟨u, he, h5, h6⟩ => ⟨u, he, h5, keep _ a (yields_down (hpl hl) (hw'.trans h5) hy) u, by rw [← Act.put_comm a v u h2]; exact h6⟩
  · rename_i hw
    simp only [hw] at h
    exact ⟨keep _ a hy _, by rw [← Act.put_comm a v undef h2]; exact h⟩
/-- does an operation wait for another one, in some steps? -/
def waitsFor (md : Region.Mode) (ops : Array Oper) : Nat → Nat → Nat → Bool
  | 0, _, _ => false
  | fuel + 1, j, i => match ops[j]? with
    | none => false
    | some o => o.after.any fun e => Region.binds md e && (e.on == i || waitsFor md ops fuel e.on i)
def Closed (md : Region.Mode) (ops : Array Oper) (listed : Array Bool) : Prop :=
  ∀ k o, ops[k]? = some o → listed.getD k false = true → ∀ e ∈ o.after, Region.binds md e = true → listed.getD e.on false = true
theorem waits_listed {listed : Array Bool} (hc : Closed md ops listed) : ∀ (fuel j i : Nat), waitsFor md ops fuel j i = true → (∀ o, ops[j]? = some o → ∀ e ∈ o.after, Region.binds md e = true → listed.getD e.on false = true) → listed.getD i false = true
  | 0, _, _, h, _ => by simp [waitsFor] at h
  | fuel + 1, j, i, h, hall => by
    unfold waitsFor at h
    cases ho : ops[j]? with
    | none => simp [ho] at h
    | some o =>
      simp only [ho] at h
      rw [← Array.any_toList, List.any_eq_true] at h
      obtain ⟨e, he0, h2⟩ := h
      have he : e ∈ o.after := Array.mem_toList_iff.1 he0
      simp only [Bool.and_eq_true, Bool.or_eq_true, beq_iff_eq] at h2
      obtain ⟨hb, h3 | h3⟩ := h2
      · rw [← h3]; exact hall o ho e he hb
      · exact waits_listed hc fuel e.on i h3 (fun o' ho' e' he' hb' => hc e.on o' ho' (hall o ho e he hb) e' he' hb')
theorem closed_set {listed : Array Bool} (hc : Closed md ops listed) {j : Nat} (hj : j ∈ Region.ready md ops listed) : Closed md ops (listed.setIfInBounds j true) := by
  intro k o ho hk e he hb
  by_cases hkj : k = j
  · subst hkj
    obtain ⟨_, o', ho', hall⟩ := mem_ready.1 hj
    rw [ho] at ho'; cases ho'
    exact getD_set_true (hall e he hb)
  · refine getD_set_true (hc k o ho ?_ e he hb)
    rw [getD_set_ne false (Ne.symm hkj)] at hk
    exact hk
theorem sAny_first {loose : Nat → Bool} {Q : World → Act → Prop} {i : Nat} {oi : Oper} {v : Value} (hi : ops[i]? = some oi) (hsel : ∀ (j : Nat) (o : Oper) cs b, ops[j]? = some o → o.op ≠ .select cs b) (fl : Nat)
    (hlo : plainOp oi.op = true ∨ ∀ j, j < ops.size → loose j = true → j ≠ i → waitsFor md ops fl j i = true ∨ waitsFor md ops fl i j = true) :
    ∀ (fuel : Nat) (listed : Array Bool) (w0 : World) (a : Act), Closed md ops listed →
      (∀ j oj, ops[j]? = some oj → j ≠ i → listed.getD j true = false → (∀ e ∈ oj.after, Region.binds md e = true → e.on ≠ i) → oi.apart ops oj = true) →
      i ∈ Region.ready md ops listed → YieldsIn P ops (Ge w0) oi v a →
      sAny P md ops loose Q fuel (listed.setIfInBounds i true) w0 (a.put oi.dst v) → sAny P md ops loose Q (fuel + 1) listed w0 a := by
  intro fuel
  induction fuel with
  | zero =>
    intro listed w0 a _ _ hr hy H
    refine ⟨fun h => (by rw [h] at hr; cases hr), fun j hj => ?_⟩
    by_cases hji : j = i
    · subst hji; exact yields_sOp hi hy H
    · have := ready_mono hj hji
      rw [H.1] at this
      cases this
  | succ fuel ih =>
    intro listed w0 a hcl hfree hr hy H
    refine ⟨fun h => (by rw [h] at hr; cases hr), fun j hj => ?_⟩
    by_cases hji : j = i
    · subst hji; exact yields_sOp hi hy H
    · have h1 := H.2 j (ready_mono hj hji)
      obtain ⟨hjun, oj, hoj, hall⟩ := mem_ready.1 hj
      have hiun := (mem_ready.1 hr).1
      have hnl : ∀ b, listed.getD i b = true → listed.getD i true = false → b = true ∧ False := fun b h1 h0 => by
        rcases Nat.lt_or_ge i listed.size with h' | h'
        · simp [h'] at h0 h1; rw [h0] at h1; cases h1
        · simp [Array.getElem?_eq_none h'] at h0
      have hnot : ∀ e ∈ oj.after, Region.binds md e = true → e.on ≠ i := fun e he hb heq => by
        have h1 := hall e he hb
        rw [heq] at h1
        exact (hnl _ h1 hiun).2
      have hpl : loose j = true → plainOp oi.op = true := fun hl => by
        rcases hlo with h | h
        · exact h
        · rcases h j (Array.getElem?_eq_some_iff.1 hoj).1 hl hji with h2 | h2
          · have h3 := waits_listed hcl fl j i h2 (fun o' ho' e he hb => by rw [hoj] at ho'; cases ho'; exact hall e he hb)
            exact ((hnl _ h3 hiun).2).elim
          · obtain ⟨_, oi', hoi', halli⟩ := mem_ready.1 hr
            have h3 := waits_listed hcl fl i j h2 (fun o' ho' e he hb => by rw [hoi'] at ho'; cases ho'; exact halli e he hb)
            exfalso
            rcases Nat.lt_or_ge j listed.size with h' | h'
            · simp [h'] at h3 hjun; rw [hjun] at h3; cases h3
            · simp [Array.getElem?_eq_none h'] at hjun
      have h2 := sOp_put hoj (hfree j oj hoj hji hjun hnot) (fun cs b => hsel i oi cs b hi) (fun cs b => hsel j oj cs b hoj) hpl hy h1
      have hfree' : ∀ k ok, ops[k]? = some ok → k ≠ i → (listed.setIfInBounds j true).getD k true = false →
          (∀ e ∈ ok.after, Region.binds md e = true → e.on ≠ i) → oi.apart ops ok = true := fun k ok hk hki hun hno => by
        refine hfree k ok hk hki ?_ hno
        by_cases hjk : j = k
        · subst hjk; exact hjun
        · rw [getD_set_ne true hjk] at hun; exact hun
      refine sOp_mono (fun w1 a' _ h3 => ih (listed.setIfInBounds j true) w1 a' (closed_set hcl hj) hfree' (ready_mono hr (Ne.symm hji)) h3.1 ?_) h2
      rw [Array.setIfInBounds_comm _ _ hji]
      exact h3.2
/-- the order of ours: is it one, and may each quiet operation be taken first, and does each loose one stand alone? -/
def segsB (md : Region.Mode) (ops : Array Oper) (loose : Nat → Bool) : List Nat → Array Bool → Bool
  | [], listed => (Region.ready md ops listed).isEmpty
  | k :: rest, listed =>
    (if loose k then decide (Region.ready md ops listed = [k])
      else (Region.ready md ops listed).contains k && Region.free md ops listed k && (match ops[k]? with
        | some o => plainOp o.op || (List.range ops.size).all fun j => !loose j || j == k || waitsFor md ops ops.size j k || waitsFor md ops ops.size k j
        | none => false)) && segsB md ops loose rest (listed.setIfInBounds k true)
/-- the walk in that order. -/
def wpSegs (P : Program) (ops : Array Oper) (loose : Nat → Bool) (Q : World → Act → Prop) : List (Nat × Oper) → World → Act → Prop
  | [], w0, a => Q w0 a
  | (k, o) :: rest, w0, a =>
    if loose k then
      if Region.wanted o (yielded ops a.tmps) then ∀ w, Ge w0 w → looseAt P o a w fun a' w' => Ge w w' ∧ wpSegs P ops loose Q rest w' a' else wpSegs P ops loose Q rest w0 (a.put o.dst undef)
    else
      if Region.wanted o (yielded ops a.tmps) then o.quiet P a (Ge w0) (wpSegs P ops loose Q rest w0) else wpSegs P ops loose Q rest w0 (a.put o.dst undef)
theorem sAny_of_segs {loose : Nat → Bool} {Q : World → Act → Prop} (hs : Region.noSelect ops = true) : ∀ (l : List (Nat × Oper)) (listed : Array Bool) (w0 : World) (a : Act), (∀ p ∈ l, ops[p.1]? = some p.2) → Closed md ops listed →
    segsB md ops loose (l.map (·.1)) listed = true → wpSegs P ops loose Q l w0 a → sAny P md ops loose Q l.length listed w0 a
  | [], _, _, _, _, _, hB, h => ⟨by simpa [segsB] using hB, h⟩
  | (k, o) :: l, listed, w0, a, hl, hc, hB, h => by
    have h0 : ops[k]? = some o := hl (k, o) (by simp)
    simp only [List.map_cons, segsB, Bool.and_eq_true] at hB
    obtain ⟨hk, hB'⟩ := hB
    have hl' : ∀ p ∈ l, ops[p.1]? = some p.2 := fun p hp => hl p (by simp [hp])
    unfold wpSegs at h
    by_cases hlk : loose k = true
    · simp only [hlk, if_true, decide_eq_true_eq] at hk h
      have hr : k ∈ Region.ready md ops listed := by rw [hk]; simp
      show (_ → _) ∧ _
      refine ⟨fun h1 => (by rw [h1] at hk; cases hk), fun j hj => ?_⟩
      rw [hk] at hj
      obtain rfl : j = k := by simpa using hj
      have ih2 := fun w1 a' => sAny_of_segs (Q := Q) hs l (listed.setIfInBounds j true) w1 a' hl' (closed_set hc hr) hB'
      unfold sOp
      simp only [h0]
      split
      · rename_i hw
        simp only [hw, if_true] at h
        exact .inr ⟨hlk, fun w hw' => loose_mono (fun a' w' ⟨h1, h2⟩ => ⟨h1, ih2 _ _ h2⟩) (h w hw')⟩
      · rename_i hw
        simp only [hw] at h
        exact ih2 _ _ h
    · have hlk' : loose k = false := by simpa using hlk
      simp only [hlk', Bool.false_eq_true, if_false, Bool.and_eq_true, h0] at hk h
      obtain ⟨⟨hr, hf⟩, hp⟩ := hk
      have hr' : k ∈ Region.ready md ops listed := by simpa using hr
      have hst : qOp P ops (Ge w0) k (wpSegs P ops loose Q l w0) a := by unfold qOp; simp only [h0]; exact h
      obtain ⟨v, hy, hK⟩ := yieldsIn_of_qOp h0 hst
      refine sAny_first h0 (Region.noSelect_spec hs) ops.size ?_ l.length listed w0 a hc (Region.free_spec h0 hf) hr' hy
        (sAny_of_segs hs l _ _ _ hl' (closed_set hc hr') hB' hK)
      simp only [Bool.or_eq_true, List.all_eq_true, List.mem_range] at hp
      rcases hp with hp | hp
      · exact .inl hp
      · refine .inr fun j hjs hlj hjk => ?_
        rcases hp j hjs with ((h1 | h1) | h1) | h1
        · simp [hlj] at h1
        · simp at h1; exact absurd h1 hjk
        · exact .inl h1
        · exact .inr h1
/-- a stretch of quiet operations, by the kit's own walk. -/
theorem segs_quiet {loose : Nat → Bool} {Q : World → Act → Prop} {w0 : World} {rest : List (Nat × Oper)} : ∀ (l : List (Nat × Oper)) (a : Act), (l.all fun p => !loose p.1) = true →
    wpQuiet P ops (Ge w0) (fun a' => wpSegs P ops loose Q rest w0 a') (l.map (·.2)) a → wpSegs P ops loose Q (l ++ rest) w0 a
  | [], _, _, h => h
  | (k, o) :: l, a, hl, h => by
    simp only [List.all_cons, Bool.and_eq_true, Bool.not_eq_true'] at hl
    show wpSegs P ops loose Q ((k, o) :: (l ++ rest)) w0 a
    unfold wpSegs
    simp only [hl.1, Bool.false_eq_true, if_false]
    rw [List.map_cons] at h
    unfold wpQuiet at h
    split
    · rename_i hw
      simp only [hw, if_true] at h
      exact Oper.quiet_mono (fun a' h' => segs_quiet l a' hl.2 h') h
    · rename_i hw
      simp only [hw] at h
      exact segs_quiet l _ hl.2 h
theorem segs_quiet_n {loose : Nat → Bool} {Q : World → Act → Prop} {w0 : World} {L : List (Nat × Oper)} {a : Act} (n : Nat) (hl : ((L.take n).all fun p => !loose p.1) = true)
    (h : wpQuiet P ops (fun w' => ∃ g : Aft w0, w' = g.w) (fun a' => wpSegs P ops loose Q (L.drop n) w0 a') ((L.take n).map (·.2)) a) : wpSegs P ops loose Q L w0 a := by
  have := segs_quiet (rest := L.drop n) (L.take n) a hl h
  rwa [List.take_append_drop] at this
/-- the last stretch. -/
theorem segs_last {loose : Nat → Bool} {Q : World → Act → Prop} {w0 : World} {L : List (Nat × Oper)} {a : Act} (hl : (L.all fun p => !loose p.1) = true)
    (h : wpQuiet P ops (fun w' => ∃ g : Aft w0, w' = g.w) (fun a' => Q w0 a') (L.map (·.2)) a) : wpSegs P ops loose Q L w0 a := by
  have := segs_quiet (Q := Q) (rest := []) L a hl h
  rwa [List.append_nil] at this
/-- a loose operation: it is met in whatever world has come by then. -/
theorem segs_loose {loose : Nat → Bool} {Q : World → Act → Prop} {w0 : World} {k : Nat} {o : Oper} {rest : List (Nat × Oper)} {a : Act} (hl : loose k = true) (hw : Region.wanted o (yielded ops a.tmps) = true)
    (h : ∀ g : Aft w0, looseAt P o a g.w fun a' w' => Ge g.w w' ∧ wpSegs P ops loose Q rest w' a') : wpSegs P ops loose Q ((k, o) :: rest) w0 a := by
  unfold wpSegs
  simp only [hl, hw, if_true]
  rintro w ⟨g, rfl⟩
  exact h g
theorem loose_call {a : Act} {dst : Option Tmp} {f : FuncId} {xs : Array Operand} {ats : Array TypeId} {ty : TypeId} {pos : String} {after : Array Edge} {guard : Option (Nat × Bool)} {w : World} {next : Act → World → Prop} {fn : Func}
    (hf : P.funcs[f]? = some fn) (hn : (fn.name == "runtime.NumGoroutine") = false) (hb : fn.body.isNone = false) (h : Calls P f (#[] ++ xs.map a.eval ++ #[]) w fun e w'' => ∃ v, e = .returned v ∧ next (a.put dst v) w'') :
    looseAt P { dst, op := .call { callee := .value (.func f), args := xs, argTypes := ats }, type := ty, pos, after, guard } a w next := by
  unfold looseAt
  rw [execOp_call_go]
  have e : (callFunc f (#[] ++ xs.map a.eval ++ #[])).run P w = .ok (.enter f (#[] ++ xs.map a.eval ++ #[])) w := by
    have hn' : ¬ fn.name = "runtime.NumGoroutine" := by simpa using hn
    have hb' : ¬ fn.body = none := by intro h0; rw [h0] at hb; simp at hb
    simp [callFunc, go_sem, hf, hn', hb']
  rw [e]
  exact h
theorem segs_skip {loose : Nat → Bool} {Q : World → Act → Prop} {w0 : World} {k : Nat} {o : Oper} {rest : List (Nat × Oper)} {a : Act} (hl : loose k = true) (hw : Region.wanted o (yielded ops a.tmps) = false)
    (h : wpSegs P ops loose Q rest w0 (a.put o.dst undef)) : wpSegs P ops loose Q ((k, o) :: rest) w0 a := by
  unfold wpSegs
  simp only [hl, hw, if_true, Bool.false_eq_true, if_false]
  exact h
/-- the region: its operations in an order of ours, cut where the loose ones stand. -/
theorem wp_region_segs {id : Nat} {Q : Exit → Act → World → Prop} {a : Act} {w : World} {l : List Oper} (loose ord : List Nat) (L : List (Nat × Oper)) (hm : P.follows .mixedOrders = true)
    (hs : Region.noSelect l.toArray = true) (hB : segsB .any l.toArray (fun k => loose.contains k) ord (Array.replicate l.length false) = true) (hL : (ord.filterMap fun k => (l[k]?).map fun o => (k, o)) = L) (hn : L.map (·.1) = ord) (hlen : L.length = l.length)
    (h : wpSegs P l.toArray (fun k => loose.contains k) (fun w0 a' => ∀ w', Ge w0 w' → Q .normal a' w') L w a) : (Code.region id l.toArray true).wp P Q a w := by
  refine wp_region_any hm ?_
  have hmem : ∀ p ∈ L, l.toArray[p.1]? = some p.2 := by
    intro p hp
    rw [← hL, List.mem_filterMap] at hp
    obtain ⟨k, _, hk⟩ := hp
    cases hlk : l[k]? with
    | none => simp [hlk] at hk
    | some o =>
      simp [hlk] at hk
      subst hk
      simpa using hlk
  have hc : Closed .any l.toArray (Array.replicate l.length false) := by
    intro k o _ hk
    simp [Array.getElem?_replicate] at hk
    split at hk <;> simp at hk
  have h1 := sAny_of_segs (md := .any) hs L (Array.replicate l.length false) w a hmem hc (by rw [hn]; exact hB) h
  have h2 := wpAny_of_s (Q' := Q) (fun w0 a w hw hq => hq w hw) L.length (Array.replicate l.length false) w a ({ w with drawn := w.drawn + 1 }) (Ge.of (Below.refl _ _).drew) h1
  rw [hlen] at h2
  simpa using h2
end
end Go.Proofs.Ytdlghiekcgplaaa
