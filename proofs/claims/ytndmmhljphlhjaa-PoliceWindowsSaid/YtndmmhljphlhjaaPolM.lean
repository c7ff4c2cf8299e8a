/- A policer in memory; which rules are asked. -/
import Derived.Test.YtndmmhljphlhjaaBuckM
import Derived.Test.YtndmmhljphlhjaaSumsW
namespace Go.Proofs.Ytndmmhljphlhjaa
set_option linter.unusedVariables false
set_option linter.unusedSimpArgs false
open Go.RowKit Go.Shelf
set_option maxRecDepth 100000
set_option maxHeartbeats 4000000
attribute [local go_sem] Oper.semAt_some
/-- a rule; b is its bucket's block. -/
structure Rs where
  st : Int
  ea : Int
  zero : Bool
  tag : Bool
  b : Nat
abbrev Rs.val (r : Rs) : Array Value := #[.int .i64 r.st, .int .i64 r.ea, .bool r.zero, .bool r.tag, .iface 40 (.pointer (some ⟨r.b, 0, none⟩))]
def Rs.asks (r : Rs) (z : Bool) : Bool := !r.zero || z
/-- a rule's cells. -/
structure RsAt (w : World) (ra i : Nat) (r : Rs) : Prop where
  c0 : w.cell? ⟨ra, i * 5, none⟩ = some (.int .i64 r.st)
  c1 : w.cell? ⟨ra, i * 5 + 1, none⟩ = some (.int .i64 r.ea)
  c2 : w.cell? ⟨ra, i * 5 + 2, none⟩ = some (.bool r.zero)
  c3 : w.cell? ⟨ra, i * 5 + 3, none⟩ = some (.bool r.tag)
  c4 : w.cell? ⟨ra, i * 5 + 4, none⟩ = some (.iface 40 (.pointer (some ⟨r.b, 0, none⟩)))
/-- these blocks are kept. -/
def Kept (g g' : Nat) (A C : World) : Prop := A.heap.size ≤ C.heap.size ∧ ∀ k, (k = g ∨ k = g') → k < A.heap.size → C.heap[k]? = A.heap[k]?
theorem Kept.refl (g g' : Nat) (A : World) : Kept g g' A A := ⟨Nat.le_refl _, fun _ _ _ => rfl⟩
theorem Kept.trans {g g' : Nat} {A C D : World} (h : Kept g g' A C) (k : Kept g g' C D) : Kept g g' A D := ⟨Nat.le_trans h.1 k.1, fun j hj hl => (k.2 j hj (Nat.lt_of_lt_of_le hl h.1)).trans (h.2 j hj hl)⟩
theorem Kept.of {g g' : Nat} {A C : World} (h : Below A.heap.size A C) : Kept g g' A C := ⟨h.size, fun k _ hl => h.block k hl⟩
theorem Kept.cell {g g' b o : Nat} {A C : World} {v : Value} (h : Kept g g' A C) (hb : b = g ∨ b = g') (hc : A.cell? ⟨b, o, none⟩ = some v) : C.cell? ⟨b, o, none⟩ = some v :=
  (World.cell?_of_block (h.2 b hb (World.block_lt_of_cell? _ _ hc))).trans hc
theorem kept_b {g g' : Nat} {w : World} (h1 : g < w.heap.size) (h2 : g' < w.heap.size) (W : World) (l : Nat) (o o' : Obj) (hl : w.heap.size ≤ l) (h : W.heap[l]? = some o) (_ : o.isCells = false) (_ : o.isWalk = false) : Kept g g' W (W.putObj l o') :=
  ⟨by simp, fun k hk _ => World.putObj_heap_other (by omega)⟩
theorem RsAt.kept {w w' : World} {ra g i : Nat} {r : Rs} (h : RsAt w ra i r) (hk : Kept ra g w w') : RsAt w' ra i r :=
  ⟨hk.cell (.inl rfl) h.c0, hk.cell (.inl rfl) h.c1, hk.cell (.inl rfl) h.c2, hk.cell (.inl rfl) h.c3, hk.cell (.inl rfl) h.c4⟩
theorem RsAt.below {w w' : World} {ra i : Nat} {r : Rs} (h : RsAt w ra i r) (hb : Below w.heap.size w w') : RsAt w' ra i r :=
  ⟨cell_keep hb h.c0, cell_keep hb h.c1, cell_keep hb h.c2, cell_keep hb h.c3, cell_keep hb h.c4⟩
theorem grown_of_below {w w' : World} (h : Below w.heap.size w w') : w.grownBy w' none := ⟨h.os, h.tape, h.output, h.size, fun k hk _ => h.block k hk⟩
theorem abides_below {β : Type} {B : Nat} {J : β → World → Prop} (h : AbidesFrom B J) (s : β) (A C : World) (hs : J s A) (hb : Below A.heap.size A C) : J s C := h s A C none hs (grown_of_below hb) (fun r e => by cases e)
theorem asked_in {α : Type} (val : α → Rs) (F : Fence) (n : Nat) (h : F.fn 41) (hro : F.round = none) (hn : 1 ≤ n) (l p ra B1 B2 len cap : Nat) (clp : Int) (z : Bool) (hz : (clp == 0) = z) (L : List α) (hlen : L.length = len) (hlm : len ≤ 1000) (J Jx : List α → World → Prop) (hJb : ∀ pre A C, J pre A → Below A.heap.size A C → J pre C)
    (hY : ∀ pre x W, J pre W → pre.length < len → YieldAt F (n - 1) Try.prog l #[.agg (val x).val] W fun e W' =>
      (e = .returned (.bool true) ∧ J (pre ++ [x]) W' ∧ Kept ra B2 W W') ∨ (e = .returned (.bool false) ∧ Jx (pre ++ [x]) W'))
    (W : World) (hB1 : W.cell? ⟨B1, 0, none⟩ = some (.pointer (some ⟨p, 0, none⟩))) (hB2 : W.cell? ⟨B2, 0, none⟩ = some (.int .i64 clp)) (hp : W.cell? ⟨p, 1, none⟩ = some (.slice (some ⟨ra, 0, none⟩) len cap)) (hr : ∀ i x, L[i]? = some x → RsAt W ra i (val x)) (h0 : J [] W) :
    CallsIn F n Try.prog 41 #[.func (.yield l) #[] #[], .pointer (some ⟨B1, 0, none⟩), .pointer (some ⟨B2, 0, none⟩)] W fun e W' => (∃ v, e = .returned v) ∧
      ((∃ ys, ys = L.filter (fun x => (val x).asks z) ∧ J ys W') ∨ (∃ pre, pre <+: L.filter (fun x => (val x).asks z) ∧ Jx pre W')) := by
  refine callsIn_of_wp Try.func41 rfl h ?_ hro
  simp only [Try.ntmps41, List.size_toArray, List.length_cons, List.length_nil, Nat.reduceAdd, Nat.reduceSub, Array.replicate_succ, Array.replicate_zero, List.push_toArray, List.append_toArray, List.nil_append, List.cons_append]
  have HJB := Lib.hid hJb
  have HR := Lib.hid hr
  clear hJb hr
  gi_wp2
  gi_loopw [5, 11] (fun s5 s11 wr => ∃ k : Nat, k ≤ len ∧ s11 = .int .i64 k ∧ J ((L.take k).filter (fun x => (val x).asks z)) wr ∧ Kept ra B2 W wr) (fun s5 s11 wr => len - (intOf s11).toNat)
  case atStart => exact ⟨0, by omega, rfl, by rw [List.take_zero]; exact h0, Kept.refl _ _ _⟩
  case round =>
    obtain ⟨k, hk, rfl, hJ, hb⟩ := hrel
    by_cases hlt : k < len
    · obtain ⟨x, hx⟩ : ∃ x, L[k]? = some x := ⟨_, List.getElem?_eq_getElem (by omega)⟩
      obtain ⟨d0, d1, d2, d3, d4⟩ := (HR.out k x hx).kept hb
      have e2 := hb.cell (.inr rfl) hB2
      have hl2 : B2 < wr.heap.size := World.block_lt_of_cell? _ _ e2
      have htk : L.take (k + 1) = L.take k ++ [x] := by rw [List.take_add_one, hx]; rfl
      have HT := Lib.hid htk
      have HL := Lib.hid hlen
      clear hx htk hlen
      have bA : Below wr.heap.size wr (wr.alloc (.cells (val x).val 75)) := (Below.refl _ _).alloc (Nat.le_refl _) _
      have hlf : ((L.take k).filter (fun x => (val x).asks z)).length < len := by
        have := List.length_filter_le (fun x => (val x).asks z) (L.take k)
        rw [List.length_take] at this; omega
      have hJ1 := HJB.out _ _ _ hJ bA
      by_cases ha : (val x).asks z = true
      · have hfl : (L.take k).filter (fun x => (val x).asks z) ++ [x] = (L.take (k + 1)).filter (fun x => (val x).asks z) := by
          rw [HT.out, List.filter_append]; congr 1; simp [ha]
        have HF := Lib.hid hfl
        clear hfl
        obtain ⟨fn, tmps, assign, body, hy, hR⟩ := hY _ x _ hJ1 hlf
        obtain ⟨r, hrv⟩ : ∃ r, val x = r := ⟨_, rfl⟩
        rw [hrv] at d0 d1 d2 d3 d4 hy hR ha bA hJ1
        clear hrv
        obtain ⟨st, ea, zz, tg, bb⟩ := r
        have hcase : zz = false ∨ (zz = true ∧ z = true) := by unfold Rs.asks at ha; cases zz <;> simp at ha ⊢; exact ha
        clear ha
        rcases hcase with rfl | ⟨rfl, rfl⟩
        all_goals
          gi_wp2
          refine hR.mono ?_
          rintro e W3 (⟨rfl, hJ3, hk3⟩ | ⟨rfl, hJx3⟩)
          · have hb3 := (hb.trans (Kept.of bA)).trans hk3
            gi_wp2
            go_roundw
            case rel => exact ⟨k + 1, by omega, by go_num, by rw [← HF.out]; exact hJ3, hb3⟩
            case measure => simp [intOf]; omega
          · gi_wp2
            refine bodyPost_ret (results_none rfl _ _ _) rfl ?_
            exact ⟨⟨_, rfl⟩, .inr ⟨_, by rw [HF.out]; exact (List.take_prefix _ _).filter _, hJx3⟩⟩
      · have hfl : (L.take k).filter (fun x => (val x).asks z) = (L.take (k + 1)).filter (fun x => (val x).asks z) := by
          rw [HT.out, List.filter_append]; simp [ha]
        have HF := Lib.hid hfl
        clear hfl
        obtain ⟨r, hrv⟩ : ∃ r, val x = r := ⟨_, rfl⟩
        rw [hrv] at d0 d1 d2 d3 d4 ha bA hJ1
        clear hrv
        obtain ⟨st, ea, zz, tg, bb⟩ := r
        obtain ⟨rfl, rfl⟩ : zz = true ∧ z = false := by unfold Rs.asks at ha; cases zz <;> simp at ha ⊢; exact ha
        clear ha
        gi_wp2
        refine ⟨by simp, ?_⟩
        gi_wp2
        go_roundw
        case rel => exact ⟨k + 1, by omega, by go_num, by rw [← HF.out]; exact hJ1, hb.trans (Kept.of bA)⟩
        case measure => simp [intOf]; omega
    · obtain rfl : len = k := by omega
      rw [List.take_of_length_le (by omega)] at hJ
      gi_wp2
      go_end0
      exact ⟨⟨_, rfl⟩, .inl ⟨_, rfl, hJ⟩⟩
theorem asked_stops {α : Type} (val : α → Rs) (F : Fence) (n : Nat) (h : F.fn 41) (hro : F.round = none) (hn : 1 ≤ n) (p ra B1 B2 len cap : Nat) (clp : Int) (z : Bool) (hz : (clp == 0) = z) (L : List α) (hlen : L.length = len) (hlm : len ≤ 1000) (w : World)
    (hB1 : w.cell? ⟨B1, 0, none⟩ = some (.pointer (some ⟨p, 0, none⟩))) (hB2 : w.cell? ⟨B2, 0, none⟩ = some (.int .i64 clp)) (hp : w.cell? ⟨p, 1, none⟩ = some (.slice (some ⟨ra, 0, none⟩) len cap)) (hr : ∀ i x, L[i]? = some x → RsAt w ra i (val x)) :
    SeqStopsK F n Try.prog 41 #[.pointer (some ⟨B1, 0, none⟩), .pointer (some ⟨B2, 0, none⟩)] (fun x : α => #[.agg (val x).val]) (Kept ra B2) (fun ys => ys = L.filter (fun x => (val x).asks z)) (fun pre => pre <+: L.filter (fun x => (val x).asks z)) len w := fun l J Jx W hW hA _ hY h0 =>
  asked_in val F n h hro hn l p ra B1 B2 len cap clp z hz L hlen hlm J Jx (abides_below hA) hY W (cell_keep hW hB1) (cell_keep hW hB2) (cell_keep hW hp) (fun i x hx => (hr i x hx).below hW) h0
theorem asked_any (p : Nat) (clp : Int) (w : World) :
    Calls Try.prog 40 #[.pointer (some ⟨p, 0, none⟩), .int .i64 clp] w fun e w' => e = .returned (.func (.func 41) #[] #[.pointer (some ⟨w.heap.size, 0, none⟩), .pointer (some ⟨w.heap.size + 1, 0, none⟩)]) ∧ w' = (w.alloc (.cells #[.pointer (some ⟨p, 0, none⟩)] 44)).alloc (.cells #[.int .i64 clp] 3) := by
  go_enter Try.func40, Try.ntmps40
  go_wp2
  go_ret
  exact ⟨rfl, rfl⟩
end Go.Proofs.Ytndmmhljphlhjaa
