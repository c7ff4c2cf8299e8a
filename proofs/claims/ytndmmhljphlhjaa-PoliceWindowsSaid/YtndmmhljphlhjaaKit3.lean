/- Small words on cells, in a world that is written out. -/
import Derived.Test.YtndmmhljphlhjaaKit2
import Derived.KernelRfl
namespace Go.Proofs.Ytndmmhljphlhjaa
set_option linter.unusedVariables false
open Go.RowKit
variable {w : World} {o : Obj} {b c i j n : Nat} {u v x : Value} {cs : Array Value} {E : TypeId}
theorem cell_top (hb : b = w.heap.size) (hv : cs[j]? = some v) : (w.alloc (.cells cs E)).cell? ⟨b, j, none⟩ = some v := by
  subst hb; rw [World.cell?_alloc_new]; exact hv
theorem cell_under (h : b < w.heap.size) (hv : w.cell? ⟨b, j, none⟩ = some v) : (w.alloc o).cell? ⟨b, j, none⟩ = some v := by
  rw [World.cell?_alloc_lt _ _ _ h]; exact hv
theorem cell_set (hv : w.cell? ⟨b, j, none⟩ = some u) : (w.setCell ⟨b, j, none⟩ v).cell? ⟨b, j, none⟩ = some v := World.cell?_setCell_same _ _ _ hv
theorem cell_off (h : i ≠ j) (hv : w.cell? ⟨b, j, none⟩ = some u) : (w.setCell ⟨b, i, none⟩ v).cell? ⟨b, j, none⟩ = some u := by
  rw [World.cell?_setCell_other _ _ _ _ (fun e => h (by injection e))]; exact hv
theorem cell_beside (h : c ≠ b) (hv : w.cell? ⟨b, j, none⟩ = some u) : (w.setCell ⟨c, i, none⟩ v).cell? ⟨b, j, none⟩ = some u := by
  rw [World.cell?_setCell_other _ _ _ _ (fun e => h (by injection e))]; exact hv
theorem cell_drew (hv : w.cell? ⟨b, j, none⟩ = some u) : w.drew.cell? ⟨b, j, none⟩ = some u := hv
theorem cell_drewN (hv : w.cell? ⟨b, j, none⟩ = some u) : (w.drewN n).cell? ⟨b, j, none⟩ = some u := hv
theorem cell_keep {w' : World} (hb : Below w.heap.size w w') (hv : w.cell? ⟨b, j, none⟩ = some u) : w'.cell? ⟨b, j, none⟩ = some u :=
  (hb.cell (p := ⟨b, j, none⟩) (World.block_lt_of_cell? _ _ hv)).trans hv
theorem size_drewN : (w.drewN n).heap.size = w.heap.size := rfl
end Go.Proofs.Ytndmmhljphlhjaa
