/- Small words on memory, for the seat of rmcell. -/
import Derived.Test.YtnjjejhniekdcaaCellS
import Derived.KernelRfl
import Derived.Deep.OwnRows
import Derived.OwnWalk
import Derived.Laws.CopyOwn
namespace Go.Proofs.Ytnjjejhniekdcaa
set_option linter.unusedVariables false
set_option linter.unusedSimpArgs false
open Go.RowKit
set_option maxRecDepth 100000
theorem bind_all {α : Type} {P : Program} {s : Sem α} {f : α → Sem Next} (h : ∀ a w n w', (f a).run P w = .ok n w' → ∃ u, n = .value u) {w w' : World} {n : Next} (hh : (s >>= f).run P w = .ok n w') : ∃ u, n = .value u := by
  rw [Sem.run_bind] at hh
  generalize s.run P w = r at hh
  cases r with
  | halt x w1 => simp at hh
  | ok a w1 => exact h a _ _ _ (by simpa using hh)
/-- no call, a build, a look for nil and a slice turned into an array's pointer among them. -/
def noCallB : Op → Bool
  | .build .. => true
  | .sliceToArrayPointer .. => true
  | .nilCheck .. => true
  | o => noCall o
theorem noCallB_value {o : Oper} {ρ : Operand → Value} {P : Program} {w w' : World} {n : Next} (hp : noCallB o.op = true) (h : (execOp ρ o).run P w = .ok n w') : ∃ u, n = .value u := by
  by_cases hn : noCall o.op = true
  · exact noCall_value hn h
  · unfold execOp at h
    cases ho : o.op <;> simp only [ho, noCallB, noCall, Bool.false_eq_true, not_true_eq_false] at hp hn h
    case nilCheck x =>
      split at h
      · exact absurd h (by simp [go_sem, runtimePanic])
      · exact absurd h (by simp [go_sem, runtimePanic])
      · exact absurd h (by simp [go_sem, runtimePanic])
      · split at h
        · exact absurd h (by simp [go_sem, runtimePanic])
        · refine bind_all (fun _ _ _ _ h1 => bind_all (fun _ _ _ _ h2 => ?_) h1) h
          split at h2
          · refine bind_all (fun _ _ _ _ h3 => ?_) h2
            simp [go_sem] at h3; exact ⟨_, h3.1.symm⟩
          · simp [go_sem] at h2; exact ⟨_, h2.1.symm⟩
        · simp [go_sem] at h; exact ⟨_, h.1.symm⟩
      · simp [go_sem] at h; exact ⟨_, h.1.symm⟩
    all_goals exact bind_value h
theorem still_of_quietB {P : Program} {ops : Array Oper} {w : World} {Q : Act → Prop} : ∀ (l : List Oper) (a : Act), (l.all fun o => noCallB o.op) = true → wpQuiet P ops (fun w' => ∃ _ : Unit, w' = w) Q l a → wpStill P ops w Q l a
  | [], _, _, h => h
  | o :: l, a, hl, h => by
    simp only [List.all_cons, Bool.and_eq_true] at hl
    unfold wpQuiet at h
    unfold wpStill
    split
    · rename_i hw
      simp only [hw, if_true] at h
      obtain ⟨v, hv, hk⟩ := h
      have h1 := hv w ⟨(), rfl⟩
      unfold Oper.quietAt at h1
      unfold Oper.still
      generalize hr : (execOp a.eval o).run P w = r at *
      cases r with
      | halt x w' => exact h1.elim
      | ok n w' =>
        obtain ⟨u, rfl⟩ := noCallB_value hl.1 hr
        obtain ⟨rfl, rfl⟩ := h1
        exact ⟨rfl, still_of_quietB l _ hl.2 hk⟩
    · rename_i hw
      simp only [hw] at h
      exact still_of_quietB l _ hl.2 h
theorem region_tail_b {P : Program} {id : Nat} {Q : Exit → Act → World → Prop} {a : Act} {w : World} {l : List Oper} (n : Nat) (hm : P.follows .mixedOrders = true) (hB : Region.lexTailB .any l.toArray n = true) (hl : ((l.take n).all fun o => noCallB o.op) = true)
    (h : wpQuiet P l.toArray (fun w' => ∃ _ : Unit, w' = w.drew) (fun a' => wpList P l.toArray Q (l.drop n) a' w.drew) (l.take n) a) : (Code.region id l.toArray true).wp P Q a w :=
  wp_region_still_tail n hm hB (still_of_quietB _ _ hl h)
theorem chg_back {b B : Nat} {w0 w w' : World} (h : Chg b w w') (h0 : Below B w0 w) (hb : B ≤ b) (hB : B ≤ w.heap.size) : Below B w0 w' := h0.trans (h.below hb hB)
theorem there_new {w : World} {C : Array Value} {E : TypeId} {b n : Nat} (hb : b = w.heap.size) (hC : C.size = n) : (w.alloc (.cells C E)).there b 0 n := fun j hj => by
  subst hb
  refine ⟨?_, frozen_top rfl⟩
  rw [cell_top (v := C[0 + j]'(by omega)) rfl (by rw [Array.getElem?_eq_getElem])]
  rfl
theorem there_chg {p b o n : Nat} {w w' : World} (h : Chg p w w') (hk : b ≠ p) (ht : w.there b o n) : w'.there b o n := fun j hj => by
  obtain ⟨h1, h2⟩ := ht j hj
  obtain ⟨u, hu⟩ := Option.isSome_iff_exists.1 h1
  have hb := h.block b (World.block_lt_of_cell? w _ hu) hk
  exact ⟨by rw [World.cell?_of_block (w := w) hb]; exact h1, by rw [World.frozen?_of_block (w := w) hb]; exact h2⟩
theorem there_below {b o n : Nat} {w w' : World} (ht : w.there b o n) (h : Below w.heap.size w w') : w'.there b o n := fun j hj => by
  obtain ⟨h1, h2⟩ := ht j hj
  obtain ⟨u, hu⟩ := Option.isSome_iff_exists.1 h1
  have hb := h.block b (World.block_lt_of_cell? w _ hu)
  exact ⟨by rw [World.cell?_of_block (w := w) hb]; exact h1, by rw [World.frozen?_of_block (w := w) hb]; exact h2⟩
theorem there_drew {b o n : Nat} {w : World} (ht : w.there b o n) : w.drew.there b o n := (World.there_drew _ _ _ _).2 ht
theorem there_setCell {b o n : Nat} {w : World} (ht : w.there b o n) (p : Addr) (v : Value) : (w.setCell p v).there b o n := fun j hj =>
  ⟨by
    by_cases hp : p = ⟨b, o + j, none⟩
    · subst hp; rw [World.cell?_setCell_same' _ _ _ (ht j hj).1]; rfl
    · rw [World.cell?_setCell_other (h := hp)]; exact (ht j hj).1, by rw [World.frozen?_setCell]; exact (ht j hj).2⟩
theorem BytesAt.chgU {w w' : World} {a : Option Addr} {len p : Nat} {zs : List Int} (h : BytesAt w a len zs) (hc : Chg p w w') (hn : ∀ b off, a = some ⟨b, off, none⟩ → b ≠ p) : BytesAt w' a len zs :=
  ⟨h.length, h.most, h.byte, fun hp => by
    obtain ⟨b, off, h1, h2, h3⟩ := h.cells hp
    exact ⟨b, off, h1, Nat.lt_of_lt_of_le h2 hc.size, fun k hk => hc.cell (hn b off h1) (h3 k hk)⟩⟩
theorem bytes_tail {w : World} {b off n m : Nat} {zs : List Int} (h : BytesAt w (some ⟨b, off, none⟩) n zs) (hm : m < n) : BytesAt w (some ⟨b, off + m, none⟩) (n - m) (zs.drop m) := by
  refine ⟨by rw [List.length_drop, h.length], by have := h.most; omega, fun k => ?_, fun _ => ?_⟩
  · rw [List.getElem?_drop]; exact h.byte _
  · obtain ⟨b', off', e, hb, hc⟩ := h.cells (by omega)
    injection e with e; injection e with e1 e2; subst e1; subst e2
    refine ⟨_, _, rfl, hb, fun k hk => ?_⟩
    have := hc (m + k) (by omega)
    rw [List.getElem?_drop, Nat.add_assoc]; exact this
theorem range_map {zs : List Int} {n : Nat} (hl : zs.length = n) : (List.range n).map (fun i => zs[i]?.getD 0) = zs := by
  apply List.ext_getElem?
  intro i
  rw [List.getElem?_map]
  by_cases h : i < n
  · rw [List.getElem?_range h]
    show some (zs[i]?.getD 0) = zs[i]?
    rw [List.getElem?_eq_getElem (by omega)]; rfl
  · rw [List.getElem?_eq_none (by simp; omega), List.getElem?_eq_none (by omega)]; rfl
theorem arrB48 (a : Option Addr) (c : Nat) (w : World) : (Instr.arrayAt 26 (.slice a 48 c)).run Try.prog w = .ok (.pointer a) w := run_arrayAt w _ _ _ a 48 c Try.underlying26 (by decide)
theorem OwnB.base {w : World} {B B' n : Nat} {v : Value} {zs : List Int} (h : OwnB w B v n zs) (hb : B' ≤ B) : OwnB w B' v n zs := by
  refine ⟨⟨h.1.1, ?_⟩, h.2⟩
  rcases h.1.2 with h2 | ⟨g, cap, cur, hv, hg, r⟩
  · exact Or.inl h2
  · exact Or.inr ⟨g, cap, cur, hv, Nat.le_trans hb hg, r⟩
theorem byteInfo : (Try.prog.info? 5).map (fun i => (i.zero, i.size, i.bytes)) = some (some (.int .u8 0), 1, 1) := by kernel_rfl
theorem neq_of {P : Program} {t : TypeId} {X Y : Array Value} {b : Bool} {w : World} (h : (binOp .eql t (.agg X) (.agg Y)).run P w = .ok (.bool b) w) : (binOp .neq t (.agg X) (.agg Y)).run P w = .ok (.bool (!b)) w := by
  simp only [binOp] at h ⊢
  rw [Sem.run_bind] at h ⊢
  generalize Sem.run P (Op.equal t (.agg X) (.agg Y)) w = r at h ⊢
  cases r with
  | halt x w' => simp [go_sem] at h
  | ok u w' =>
    simp [go_sem] at h ⊢
    obtain ⟨rfl, rfl⟩ := h
    exact ⟨rfl, rfl⟩
theorem range_chg {w w' : World} {b o p : Nat} {cs : List Value} (h : w.rangeAt b o cs) (hc : Chg p w w') (hn : b ≠ p) : w'.rangeAt b o cs := fun j v hv => hc.cell hn (h j v hv)
abbrev z48 : List Int := List.replicate 48 0
theorem z48_B : allB z48 := fun z hz => by obtain ⟨_, rfl⟩ := List.mem_replicate.1 hz; unfold isB; omega
end Go.Proofs.Ytnjjejhniekdcaa
