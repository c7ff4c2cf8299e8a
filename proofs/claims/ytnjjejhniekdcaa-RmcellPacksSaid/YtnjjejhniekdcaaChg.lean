/- A world in which one block alone may have turned. -/
import Derived.Test.YtnjjejhniekdcaaKit3
import Derived.WalkLawsBesides
namespace Go.Proofs.Ytnjjejhniekdcaa
set_option linter.unusedVariables false
set_option linter.unusedSimpArgs false
open Go.RowKit
/-- of what was there, block b alone may have turned. -/
structure Chg (b : Nat) (w w' : World) : Prop where
  os : w'.os = w.os
  tape : w'.tape = w.tape
  output : w'.output = w.output
  size : w.heap.size ≤ w'.heap.size
  block : ∀ k, k < w.heap.size → k ≠ b → w'.heap[k]? = w.heap[k]?
theorem Chg.refl (b : Nat) (w : World) : Chg b w w := ⟨rfl, rfl, rfl, Nat.le_refl _, fun _ _ _ => rfl⟩
theorem Chg.trans {b : Nat} {w w1 w2 : World} (h : Chg b w w1) (k : Chg b w1 w2) : Chg b w w2 :=
  ⟨k.os.trans h.os, k.tape.trans h.tape, k.output.trans h.output, Nat.le_trans h.size k.size, fun j hj hn => (k.block j (Nat.lt_of_lt_of_le hj h.size) hn).trans (h.block j hj hn)⟩
theorem Chg.of {b : Nat} {w w' : World} (h : Below w.heap.size w w') : Chg b w w' := ⟨h.os, h.tape, h.output, h.size, fun k hk _ => h.block k hk⟩
theorem Chg.setCell {b : Nat} {w w' : World} (h : Chg b w w') (o : Nat) (v : Value) : Chg b w (w'.setCell ⟨b, o, none⟩ v) :=
  ⟨h.os, h.tape, h.output, by simpa using h.size, fun k hk hn => (Below.heap_setCell w' ⟨b, o, none⟩ v k hn).trans (h.block k hk hn)⟩
theorem Chg.setNew {b c : Nat} {w w' : World} (h : Chg b w w') (hc : w.heap.size ≤ c) (o : Nat) (v : Value) : Chg b w (w'.setCell ⟨c, o, none⟩ v) :=
  ⟨h.os, h.tape, h.output, by simpa using h.size, fun k hk hn => (Below.heap_setCell w' ⟨c, o, none⟩ v k (show k ≠ c by omega)).trans (h.block k hk hn)⟩
theorem Chg.alloc {b : Nat} {w w' : World} (h : Chg b w w') (o : Obj) : Chg b w (w'.alloc o) :=
  h.trans (Chg.of ((Below.refl _ _).alloc (Nat.le_refl _) o))
theorem Chg.drewN {b : Nat} {w w' : World} (h : Chg b w w') (n : Nat) : Chg b w (w'.drewN n) := ⟨h.os, h.tape, h.output, h.size, h.block⟩
theorem Chg.drew {b : Nat} {w w' : World} (h : Chg b w w') : Chg b w w'.drew := ⟨h.os, h.tape, h.output, h.size, h.block⟩
theorem Chg.then {b : Nat} {w w1 w2 : World} (h : Chg b w w1) (k : Below w1.heap.size w1 w2) : Chg b w w2 := h.trans (Chg.of k)
theorem Chg.below {b B : Nat} {w w' : World} (h : Chg b w w') (hb : B ≤ b) (hB : B ≤ w.heap.size) : Below B w w' :=
  ⟨h.os, h.tape, h.output, h.size, fun k hk => h.block k (by omega) (by omega)⟩
theorem Chg.cell {b : Nat} {w w' : World} (h : Chg b w w') {k o : Nat} {v : Value} (hk : k ≠ b) (hv : w.cell? ⟨k, o, none⟩ = some v) : w'.cell? ⟨k, o, none⟩ = some v :=
  (World.cell?_of_block (w := w) (h.block k (World.block_lt_of_cell? w _ hv) hk)).trans hv
end Go.Proofs.Ytnjjejhniekdcaa
