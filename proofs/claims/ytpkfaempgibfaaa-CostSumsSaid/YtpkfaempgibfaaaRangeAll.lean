/- A range over a function that always goes on, where the iterator may itself range over a function: what the caller holds may not hang on what a loop's record is made of. -/
import Derived.Test.YtpkfaempgibfaaaSumsW
namespace Go.Proofs.Ytpkfaempgibfaaa
set_option linter.unusedVariables false
set_option linter.unusedSimpArgs false
open Go.RowKit
/-- no cells turned, nothing below B turned. -/
structure Ext (B : Nat) (A C : World) : Prop where
  os : C.os = A.os
  tape : C.tape = A.tape
  output : C.output = A.output
  size : A.heap.size ≤ C.heap.size
  keep : ∀ (k : Nat) (o : Obj), A.heap[k]? = some o → (k < B ∨ o.isCells = true) → C.heap[k]? = some o
theorem Ext.of_below {B : Nat} {A C : World} (h : Below A.heap.size A C) : Ext B A C :=
  ⟨h.os, h.tape, h.output, h.size, fun k o hk _ => (h.block k (Array.getElem?_eq_some_iff.1 hk).1).trans hk⟩
theorem Ext.mono {B B' : Nat} {A C : World} (h : Ext B' A C) (hb : B ≤ B') : Ext B A C :=
  ⟨h.os, h.tape, h.output, h.size, fun k o hk hc => h.keep k o hk (hc.elim (fun hl => .inl (Nat.lt_of_lt_of_le hl hb)) .inr)⟩
theorem Ext.of_grown {B : Nat} {A C : World} {row : Option Nat} (hg : A.grownBy C row) (hr : ∀ r, row = some r → B ≤ r ∧ ∃ o : Obj, A.heap[r]? = some o ∧ o.isCells = false) : Ext B A C := by
  have h0 := (Below.refl 0 A).grown hg (Nat.zero_le _) (fun _ _ => Nat.zero_le _)
  refine ⟨h0.os, h0.tape, h0.output, h0.size, fun k o hk hc => ?_⟩
  refine (hg.block k (Array.getElem?_eq_some_iff.1 hk).1 fun e => ?_).trans hk
  obtain ⟨h1, o', h2, h3⟩ := hr k e.symm
  rw [hk] at h2; injection h2 with h2; subst h2
  rcases hc with hc | hc
  · omega
  · rw [h3] at hc; cases hc
theorem Ext.putObj {B l : Nat} {A : World} {o : Obj} (o' : Obj) (hB : B ≤ l) (h : A.heap[l]? = some o) (ho : o.isCells = false) : Ext B A (A.putObj l o') :=
  Ext.of_grown (grownBy_putObj' A l o') (fun r e => by cases e; exact ⟨hB, o, h, ho⟩)
/-- what a round may turn: nothing below n, nothing from B on. -/
def Far (n B : Nat) (A C : World) : Prop := Below n A C ∧ ∀ k, B ≤ k → k < A.heap.size → C.heap[k]? = A.heap[k]?
theorem Far.trans {n B : Nat} {A C D : World} (h : Far n B A C) (h' : Far n B C D) : Far n B A D :=
  ⟨h.1.trans h'.1, fun k hk hl => (h'.2 k hk (Nat.lt_of_lt_of_le hl h.1.size)).trans (h.2 k hk hl)⟩
theorem Far.mono {n B B' : Nat} {A C : World} (h : Far n B A C) (hb : B ≤ B') : Far n B' A C := ⟨h.1, fun k hk hl => h.2 k (Nat.le_trans hb hk) hl⟩
theorem Far.putObj {n B l : Nat} {A : World} {o : Obj} (o' : Obj) (hn : n ≤ l) (hB : l < B) (h : A.heap[l]? = some o) : Far n B A (A.putObj l o') := by
  have hlt := (Array.getElem?_eq_some_iff.1 h).1
  exact ⟨(Below.refl n A).grown (grownBy_putObj' A l o') (by omega) (fun k e => by cases e; exact hn), fun k hk _ => World.putObj_heap_other (by omega)⟩
theorem Far.kept {n B k : Nat} {A C : World} {o : Obj} (h : Far n B A C) (hB : B ≤ k) (hk : A.heap[k]? = some o) : C.heap[k]? = some o := (h.2 k hB (Array.getElem?_eq_some_iff.1 hk).1).trans hk
theorem Far.cell {n B b o : Nat} {A C : World} {v : Value} (h : Far n B A C) (hB : B ≤ b) (hc : A.cell? ⟨b, o, none⟩ = some v) : C.cell? ⟨b, o, none⟩ = some v := by
  obtain ⟨ob, ho, _⟩ := cells_of_cell hc
  exact (World.cell?_of_block ((h.kept hB ho).trans ho.symm)).trans hc
/-- an iterator that gives all of xs, one by one, where it is never stopped. -/
def SeqAll {α : Type} (F : Fence) (n : Nat) (P : Program) (g : Nat) (lb : Array Value) (encs : α → Array Value) (n₀ N : Nat) (xs : List α) (w : World) : Prop :=
  ∀ (l : Nat) (J : List α → World → Prop) (W : World), Below w.heap.size w W → (∀ pre A C, J pre A → Ext W.heap.size A C → J pre C) →
    (∀ pre x W1, J pre W1 → pre.length < N → YieldAt F (n - 1) P l (encs x) W1 fun e W' => e = .returned (.bool true) ∧ J (pre ++ [x]) W' ∧ Far n₀ W.heap.size W1 W') →
    J [] W → CallsIn F n P g (#[.func (.yield l) #[] #[]] ++ lb) W fun e W' => (∃ v, e = .returned v) ∧ J xs W'
variable {F : Fence} {n : Nat} {P : Program}
theorem wpIn_rangeFunc_all {α : Type} {g : Operand} {ps : Array Tmp} {assign body : Code} {Q : Exit → Act → World → Prop} {a : Act} {w : World}
    (hro : F.round = none) (h1 : 1 ≤ n) {gf : Nat} {lb : Array Value} (hg : a.eval g = .func (.func gf) #[] lb) (hFg : F.fn gf) (eg : ∀ args w, (callFunc gf args).run P w = .ok (.enter gf args) w)
    {encs : α → Array Value} {n₀ N : Nat} {xs : List α} {w0 : World} (hseq : SeqAll F (n - 1) P gf lb encs n₀ N xs w0) (hb0 : Below w0.heap.size w0 w) (hn : n₀ ≤ w.heap.size) (hps : ∀ x, (encs x).size = ps.size)
    (I : List α → World → Prop) (hI : ∀ pre A C, I pre A → Ext w.heap.size A C → I pre C) (h0 : I [] w) (a₁ : α → Act)
    (hassign : ∀ (l : Nat) (x : α) (W : World) (K : Act → World → Prop), K (a₁ x) W →
      assign.wpIn (F.inRound l) (n - 1 - 1) P (Exit.then K (fun _ _ _ => False)) { tmps := (ps.zip (encs x)).foldl (fun t (p, v) => t.setIfInBounds p v) a.tmps, defers := [] } W)
    (hbody : ∀ (l : Nat) (pre : List α) (x : α) (W : World), I pre W → pre.length < N → body.wpIn (F.inRound l) (n - 1 - 1) P (fun e _ W' => e = .normal ∧ Far n₀ w.heap.size W W' ∧ I (pre ++ [x]) W') (a₁ x) W)
    (hdone : ∀ (D : Nat) (W : World), w.heap.size ≤ D → I xs W → W.heap[D]? = some (.deferred (some [])) → Q .normal { a with defers := { target := .collected D, args := #[] } :: a.defers } W) :
    (Code.rangeFunc g ps assign body).wpIn F n P Q a w := by
  refine wpIn_rangeFunc fun fn hfn => ?_
  rw [hro]
  obtain ⟨rec, hrec⟩ : ∃ rec : LoopState → Loop, rec = fun st => { state := st, pending := none, fn, tmps := a.tmps, params := ps, assign, body, defers := w.heap.size } := ⟨_, rfl⟩
  obtain ⟨V, hV⟩ : ∃ V, V = (w.alloc (.deferred (some []))).alloc (.loop (rec .ready)) := ⟨_, rfl⟩
  have hsV : V.heap.size = w.heap.size + 1 + 1 := by rw [hV]; simp
  have hbV : Below w.heap.size w V := by rw [hV]; exact ((Below.refl _ _).alloc (Nat.le_refl _) _).alloc (by simp) _
  have hD : V.heap[w.heap.size]? = some (.deferred (some [])) := by
    rw [hV]; exact (Below.heap_alloc _ _ _ (by simp)).trans (World.alloc_heap_new w _)
  have hL : V.heap[w.heap.size + 1]? = some (.loop (rec .ready)) := by
    rw [hV]; have := World.alloc_heap_new (w.alloc (.deferred (some []))) (.loop (rec .ready)); rwa [World.size_alloc] at this
  refine ⟨w.heap.size + 1, [{ target := .collected w.heap.size, args := #[] }], V, { target := .fn (.func gf) lb, args := #[.func (.yield (w.heap.size + 1)) #[] #[]] }, V, gf, #[.func (.yield (w.heap.size + 1)) #[] #[]] ++ lb, V, ?_, ?_, ?_, ?_, fun _ => h1, ?_⟩
  · rw [hV, hrec]; exact run_enterLoop_outer _ _ _ _ _
  · simp only [resolve, hg]
    simp [go_sem]
  · intro f hf
    simp [Target.leads] at hf
    exact hf ▸ hFg
  · simp [invoke, go_sem, eg]
  · refine (hseq (w.heap.size + 1) (fun pre W => I pre W ∧ W.heap[w.heap.size + 1]? = some (.loop (rec .ready)) ∧ W.heap[w.heap.size]? = some (.deferred (some []))) V (hb0.trans (hbV.mono hb0.size)) ?_ ?_ ⟨hI _ _ _ h0 (Ext.of_below hbV), hL, hD⟩).mono ?_
    · rintro pre A C ⟨hi, hl, hd⟩ hx
      exact ⟨hI _ _ _ hi (hx.mono (by omega)), hx.keep _ _ hl (.inl (by omega)), hx.keep _ _ hd (.inl (by omega))⟩
    · rintro pre x W ⟨hi, hl, hd⟩ hpre
      have hy := run_yield (P := P) (args := encs x) hl (by rw [hrec]; exact hps x)
      rw [hrec] at hy
      refine ⟨fn, _, assign, body, hy, roundIn_of_wpIn hfn (hassign _ x W _ ⟨_, run_beginRound hl (by rw [hrec]), ?_⟩)⟩
      have hlt : w.heap.size + 1 < W.heap.size := (Array.getElem?_eq_some_iff.1 hl).1
      obtain ⟨Y, hY⟩ : ∃ Y, Y = W.putObj (w.heap.size + 1) (.loop { rec .ready with state := .busy }) := ⟨_, rfl⟩
      have fY : Far n₀ V.heap.size W Y := by rw [hY]; exact Far.putObj _ (by omega) (by omega) hl
      have lY : Y.heap[w.heap.size + 1]? = some (.loop { rec .ready with state := .busy }) := by rw [hY]; exact World.putObj_heap_same hlt
      have dY : Y.heap[w.heap.size]? = some (.deferred (some [])) := by rw [hY]; exact (World.putObj_heap_other (by omega)).trans hd
      have iY : I pre Y := by rw [hY]; exact hI _ _ _ hi (Ext.putObj _ (by omega) hl rfl)
      rw [← hY]
      refine wpIn_mono (hbody _ pre x Y iY hpre) ?_
      rintro e a3 Z ⟨rfl, fZ, iZ⟩
      have lZ := fZ.kept (by omega) lY
      have dZ := fZ.kept (Nat.le_refl _) dY
      have hr := run_endRound (P := P) none lZ
      refine ⟨_, _, hr, rfl, ⟨hI _ _ _ iZ (Ext.putObj _ (by omega) lZ rfl), ?_, (World.putObj_heap_other (by omega)).trans dZ⟩, (fY.trans (fZ.mono (by omega))).trans (Far.putObj _ (by omega) (by omega) lZ)⟩
      refine (World.putObj_heap_same (Array.getElem?_eq_some_iff.1 lZ).1).trans ?_
      rw [hrec]; rfl
    · rintro e W ⟨⟨v, rfl⟩, hi, hl, hd⟩
      have he := run_endLoop (P := P) hl (by rw [hrec]; simp)
      rw [hrec] at he
      exact ⟨none, _, he, hdone _ _ (Nat.le_refl _) (hI _ _ _ hi (Ext.putObj _ (by omega) hl rfl)) ((World.putObj_heap_other (by omega)).trans hd)⟩
end Go.Proofs.Ytpkfaempgibfaaa
