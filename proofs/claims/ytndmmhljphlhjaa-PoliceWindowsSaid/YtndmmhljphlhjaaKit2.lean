/- More small words for this seat's walks: worlds behind a call that made memory. -/
import Derived.Test.YtndmmhljphlhjaaKit
import Derived.WalkSmall
import Derived.Deep.Quiet
namespace Go.Proofs.Ytndmmhljphlhjaa
set_option linter.unusedVariables false
set_option linter.unusedSimpArgs false
open Go.RowKit
theorem bcell {W w1 : World} (hb : Below W.heap.size W w1) : (∀ b o, b < W.heap.size → w1.cell? ⟨b, o, none⟩ = W.cell? ⟨b, o, none⟩) ∧ (∀ b o, b < W.heap.size → w1.frozen? ⟨b, o, none⟩ = W.frozen? ⟨b, o, none⟩) :=
  ⟨fun b o h => hb.cell (p := ⟨b, o, none⟩) h, fun b o h => hb.frozen (p := ⟨b, o, none⟩) h⟩
/-- behind a box, and a call that made memory. -/
theorem below_box {w w' : World} {o : Obj} (hb : Below (w.alloc o).heap.size (w.alloc o) w') : Below w.heap.size w w' :=
  ((Below.refl _ _).alloc (Nat.le_refl _) o).trans (hb.mono (by simp))
theorem below_box2 {w w' : World} {o o' : Obj} (hb : Below ((w.alloc o).alloc o').heap.size ((w.alloc o).alloc o') w') : Below w.heap.size w w' :=
  below_box (below_box hb)
theorem below_then {w w1 w2 : World} (h1 : Below w.heap.size w w1) (h2 : Below w1.heap.size w1 w2) : Below w.heap.size w w2 := h1.trans (h2.mono h1.size)
theorem below_same {w w' : World} (h : w = w') : Below w.heap.size w w' := h ▸ Below.refl _ _
theorem quiet_same {P : Program} {f : FuncId} {args : Array Value} {w : World} {n : Nat} {v : Value}
    (h : Calls P f args (w.drewN n) fun e w' => e = .returned v ∧ w.drewN n = w') : Calls P f args (w.drewN n) fun e w'' => e = .returned v ∧ ∃ m, w'' = w.drewN m :=
  h.mono fun _ _ ⟨he, hm⟩ => ⟨he, n, hm.symm⟩
/-- a world behind calls that made memory, and turned nothing that was there. -/
def Aft (W : World) : Type := Subtype fun w' : World => Below W.heap.size W w'
def Aft.w {W : World} (g : Aft W) : World := g.1
instance (W : World) : Nonempty (Aft W) := ⟨⟨W, Below.refl _ _⟩⟩
theorem Aft.below {W : World} (g : Aft W) : Below W.heap.size W g.w := g.2
theorem Aft.cell {W : World} (g : Aft W) (b o : Nat) (h : b < W.heap.size) : g.w.cell? ⟨b, o, none⟩ = W.cell? ⟨b, o, none⟩ := g.below.cell (p := ⟨b, o, none⟩) h
attribute [go_sem] Aft.cell
/-- a region that draws its order, whose operations read, and whose callees make memory alone: one walk, in the order of the text. -/
theorem wp_region_hold {P : Program} {id : Nat} {Q : Exit → Act → World → Prop} {a : Act} {w : World} {l : List Oper} (hm : P.follows .mixedOrders = true) (hB : Region.lexB .any l.toArray = true)
    (h : wpQuiet P l.toArray (fun w' => ∃ g : Aft w, w' = g.w) (fun a' => ∀ w', (∃ g : Aft w, w' = g.w) → Q .normal a' w') l a) : (Code.region id l.toArray true).wp P Q a w :=
  wp_region_quiet (C := fun w' => ∃ g : Aft w, w' = g.w) hm hB ⟨⟨{ w with drawn := w.drawn + 1 }, (Below.refl _ _).drew⟩, rfl⟩ (by simpa using h)
theorem aft_of {P : Program} {f : FuncId} {args : Array Value} {W : World} {g : Aft W} {v : Value}
    (h : Calls P f args g.w fun e w' => e = .returned v ∧ Below g.w.heap.size g.w w') : Calls P f args g.w fun e w'' => e = .returned v ∧ ∃ g' : Aft W, w'' = g'.w :=
  h.mono fun _ w'' ⟨he, hb⟩ => ⟨he, ⟨w'', below_then g.below hb⟩, rfl⟩
theorem aft_same {P : Program} {f : FuncId} {args : Array Value} {W : World} {g : Aft W} {v : Value}
    (h : Calls P f args g.w fun e w' => e = .returned v ∧ g.w = w') : Calls P f args g.w fun e w'' => e = .returned v ∧ ∃ g' : Aft W, w'' = g'.w :=
  h.mono fun _ w'' ⟨he, hb⟩ => ⟨he, g, hb.symm⟩
/-- a row that the call has just made. -/
theorem own_made {w : World} {base : Nat} {E : TypeId} {size n : Nat} (cs : Array Value) (h : base ≤ w.heap.size) (hn : n ≤ maxLen) (hs : cs.size = n * size) :
    (w.alloc (.cells cs E)).ownsRow base E size (.slice (some ⟨w.heap.size, 0, none⟩) n n) n cs.toList :=
  ⟨by simp [hs], Or.inr ⟨w.heap.size, n, cs, rfl, h, by show (w.heap.push _)[w.heap.size]? = _; simp, Nat.le_refl _, hn, hs, List.take_of_length_le (by simp [hs])⟩⟩
theorem cells_made {w : World} {E : TypeId} (cs : Array Value) (hm : cs.size ≤ maxLen) : ∀ j u, cs.toList[j]? = some u → (w.alloc (.cells cs E)).cell? ((⟨w.heap.size, 0, none⟩ : Addr).add j) = some u :=
  (own_made (w := w) (base := 0) (E := E) (size := 1) (n := cs.size) cs (Nat.zero_le _) hm (by omega)).cells rfl
theorem cells_made_at {w : World} {E : TypeId} (cs : Array Value) (hm : cs.size ≤ maxLen) {b : Nat} (hb : b = w.heap.size) : ∀ j u, cs.toList[j]? = some u → (w.alloc (.cells cs E)).cell? ((⟨b, 0, none⟩ : Addr).add j) = some u := by
  subst hb; exact cells_made cs hm
theorem own_made_at {w : World} {base : Nat} {E : TypeId} {size n : Nat} (cs : Array Value) (h : base ≤ w.heap.size) (hn : n ≤ maxLen) (hs : cs.size = n * size) {b : Nat} (hb : b = w.heap.size) :
    (w.alloc (.cells cs E)).ownsRow base E size (.slice (some ⟨b, 0, none⟩) n n) n cs.toList := by
  subst hb; exact own_made cs h hn hs
theorem own_below {w w' : World} {base : Nat} {E : TypeId} {size n : Nat} {v : Value} {xs : List Value} (h : w.ownsRow base E size v n xs) (hb : Below w.heap.size w w') : w'.ownsRow base E size v n xs := by
  refine ⟨h.1, ?_⟩
  rcases h.2 with h2 | ⟨g, cap, cur, hv, hg, hh, r⟩
  · exact Or.inl h2
  · exact Or.inr ⟨g, cap, cur, hv, hg, by rw [hb.block g (by rw [Array.getElem?_eq_some_iff] at hh; exact hh.1)]; exact hh, r⟩
theorem below_grown {w w' : World} {row : Option Nat} (hg : w.grownBy w' row) (hr : ∀ k, row = some k → w.heap.size ≤ k) : Below w.heap.size w w' :=
  (Below.refl _ _).grown hg (Nat.le_refl _) hr
end Go.Proofs.Ytndmmhljphlhjaa
