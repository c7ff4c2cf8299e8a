/- A slice of slices of bytes that came in. -/
import Derived.Test.YtdlghiekcgplaaaOpenB
namespace Go.Proofs.Ytdlghiekcgplaaa
set_option linter.unusedVariables false
set_option linter.unusedSimpArgs false
open Go.RowKit Go.ChangeShapes Go.WideShapes Go.ChangeAt
/-- a slice of bytes, as its one cell. -/
theorem trod_bytes {H : Type} {enc : TypeId × Value → H} {P : Program} {w : World} {base : Nat} {spare : Nat → Bool} {held : Bool} {t e : TypeId} {fuel : Nat} {cs : List Value} {x : DataW H × List MemPlace}
    (ht : P.underlying t = some (.slice e)) (hl : leaves P 2 e = some [some .u8]) (hc : P.cellsOf e = 1) (h : DataW.trod enc P w base spare held fuel t cs = some x) :
    ∃ (a : Option Addr) (len cap : Nat) (zs : List Int), cs = [.slice a len cap] ∧ len ≤ cap ∧ cap ≤ maxLen ∧ (len ≤ 140737488355328 → BytesAt w a len zs) ∧ (a = none → cap = 0) := by
  rcases DataW.trod_slice ht h with ⟨h0, _⟩ | ⟨a', len, cap, elems, rest, m, _, h0, _, hb, hle, hm, hlen, hel, _⟩
  · subst h0
    exact ⟨none, 0, 0, [], rfl, by omega, by unfold maxLen; omega, fun _ => BytesAt.nil w, fun _ => rfl⟩
  · subst h0
    have key : ∀ i, i < len → ∃ z : Int, w.cells? base (a'.add (i * P.cellsOf e)) (P.cellsOf e) = some [.int .u8 z] ∧ 0 ≤ z ∧ z < 256 := fun i hi => by
      have h1 := hel i hi
      rw [List.getElem?_eq_getElem (by omega : i < elems.length)] at h1
      cases hcs : w.cells? base (a'.add (i * P.cellsOf e)) (P.cellsOf e) with
      | none => rw [hcs] at h1; simp at h1
      | some cs =>
        rw [hcs] at h1
        obtain ⟨z, hz, h2⟩ := fits_u8 (trod_leaves 2 e _ hl m cs _ (by simpa using h1))
        exact ⟨z, by rw [hz], h2⟩
    obtain ⟨zs, hz1, hz2⟩ : ∃ zs : List Int, zs.length = len ∧ ∀ i, i < len → w.cells? base (a'.add (i * P.cellsOf e)) (P.cellsOf e) = some [.int .u8 (zs[i]?.getD 0)] ∧ 0 ≤ zs[i]?.getD 0 ∧ zs[i]?.getD 0 < 256 := by
      refine ⟨(List.range len).map fun i => match w.cells? base (a'.add (i * P.cellsOf e)) (P.cellsOf e) with | some [.int _ z] => z | _ => 0, by simp, fun i hi => ?_⟩
      obtain ⟨z, h1, h2, h3⟩ := key i hi
      simp [hi, h1, h2, h3]
    refine ⟨some a', len, cap, zs, rfl, hle, hm, fun hm => ⟨hz1, hm, fun k => ?_, fun hp => ?_⟩, fun e => (by cases e)⟩
    · by_cases hk : k < len
      · exact (hz2 k hk).2
      · rw [List.getElem?_eq_none (by omega)]; simp
    · have cell : ∀ k, k < len → w.cell? (a'.add k) = some (.int .u8 (zs[k]?.getD 0)) := fun k hk => by
        have h1 := (hz2 k hk).1
        rw [hc, Nat.mul_one] at h1
        unfold World.cells? at h1
        split at h1
        · have h2 := (mapM_get h1).2 0 (by simp)
          simpa [Addr.add] using h2
        · simp at h1
      obtain ⟨b, off, spot⟩ := a'
      have c0 := cell 0 hp
      have hspot : spot = none := by simpa [Addr.add] using World.cell?_spot c0
      subst hspot
      refine ⟨b, off, rfl, ?_, fun k hk => ?_⟩
      · have := World.block_lt_of_cell? w _ c0
        simpa [Addr.add] using this
      · have := cell k hk
        rwa [Go.WideShapes.add_plain] at this
/-- a slice of slices of bytes: slice i begins at sa i. -/
structure SlicesAt (w : World) (a : Option Addr) (len : Nat) (sa : Nat → Option Addr) (sn sc : Nat → Nat) (zf : Nat → List Int) : Prop where
  cells : 0 < len → ∃ b off, a = some ⟨b, off, none⟩ ∧ b < w.heap.size ∧ ∀ i, i < len → w.cell? ⟨b, off + i, none⟩ = some (.slice (sa i) (sn i) (sc i))
  each : ∀ i, i < len → sn i ≤ sc i ∧ sc i ≤ 9223372036854775807 ∧ (sn i ≤ 140737488355328 → BytesAt w (sa i) (sn i) (zf i)) ∧ (sa i = none → sc i = 0)
theorem SlicesAt.below {w w' : World} {a : Option Addr} {len : Nat} {sa : Nat → Option Addr} {sn sc : Nat → Nat} {zf : Nat → List Int} (h : SlicesAt w a len sa sn sc zf) (hb : Below w.heap.size w w') : SlicesAt w' a len sa sn sc zf :=
  ⟨fun hp => by
    obtain ⟨b, off, h1, h2, h3⟩ := h.cells hp
    exact ⟨b, off, h1, Nat.lt_of_lt_of_le h2 hb.size, fun i hi => (hb.cell (p := ⟨b, off + i, none⟩) h2).trans (h3 i hi)⟩,
   fun i hi => ⟨(h.each i hi).1, (h.each i hi).2.1, fun hn => ((h.each i hi).2.2.1 hn).below hb, (h.each i hi).2.2.2⟩⟩
theorem open_slices {H : Type} {enc : TypeId × Value → H} {P : Program} {w w' : World} {r : Reach} {b0 base : Nat} {spare : Nat → Bool} {held : Bool} {t te e : TypeId} {v : Value} {d : DataW H} {p : List MemPlace}
    (ht : P.underlying t = some (.slice te)) (hte : P.underlying te = some (.slice e)) (hct : P.cellsOf te = 1) (hl : leaves P 2 e = some [some .u8]) (hc : P.cellsOf e = 1) (hv : Value.okWide P w' r b0 t v) (h : DataW.Trod enc P w base spare held t v d p) :
    ∃ (a : Option Addr) (len cap : Nat) (sa : Nat → Option Addr) (sn sc : Nat → Nat) (zf : Nat → List Int), v = .slice a len cap ∧ len ≤ cap ∧ cap ≤ maxLen ∧ SlicesAt w a len sa sn sc zf ∧ (a = none → cap = 0) := by
  obtain ⟨a, len, cap, rfl⟩ := okWide_slice ht hv
  obtain ⟨fuel, hf⟩ := h
  have hf : DataW.trod enc P w base spare held fuel t [.slice a len cap] = some (d, p) := by simpa [Value.cells] using hf
  rcases DataW.trod_slice ht hf with ⟨h0, _⟩ | ⟨a', len', cap', elems, rest, m, _, h0, _, hb, hle, hm, hlen, hel, _⟩
  · simp only [List.cons.injEq, Value.slice.injEq, and_true] at h0
    obtain ⟨rfl, rfl, rfl⟩ := h0
    exact ⟨none, 0, 0, fun _ => none, fun _ => 0, fun _ => 0, fun _ => [], rfl, by omega, by unfold maxLen; omega, ⟨fun h => by omega, fun i hi => by omega⟩, fun _ => rfl⟩
  · simp only [List.cons.injEq, Value.slice.injEq, and_true] at h0
    obtain ⟨rfl, rfl, rfl⟩ := h0
    have key : ∀ i, ∃ (q : Option Addr × Nat × Nat × List Int), i < len → w.cells? base (a'.add (i * P.cellsOf te)) (P.cellsOf te) = some [.slice q.1 q.2.1 q.2.2.1] ∧ q.2.1 ≤ q.2.2.1 ∧ q.2.2.1 ≤ maxLen ∧ (q.2.1 ≤ 140737488355328 → BytesAt w q.1 q.2.1 q.2.2.2) ∧ (q.1 = none → q.2.2.1 = 0) := fun i => by
      by_cases hi : i < len
      · have h1 := hel i hi
        rw [List.getElem?_eq_getElem (by omega : i < elems.length)] at h1
        cases hcs : w.cells? base (a'.add (i * P.cellsOf te)) (P.cellsOf te) with
        | none => rw [hcs] at h1; simp at h1
        | some cs =>
          rw [hcs] at h1
          obtain ⟨qa, qn, qc, qz, rfl, g1, g2, g3, g4⟩ := trod_bytes hte hl hc (by simpa using h1 : DataW.trod enc P w base spare held m te cs = _)
          exact ⟨(qa, qn, qc, qz), fun _ => ⟨rfl, g1, g2, g3, g4⟩⟩
      · exact ⟨(none, 0, 0, []), fun h => absurd h hi⟩
    have key2 := Classical.axiomOfChoice key
    obtain ⟨q, hq⟩ := key2
    refine ⟨some a', len, cap, fun i => (q i).1, fun i => (q i).2.1, fun i => (q i).2.2.1, fun i => (q i).2.2.2, rfl, hle, hm, ⟨fun hp => ?_, fun i hi => ⟨(hq i hi).2.1, ?_, (hq i hi).2.2.2.1, (hq i hi).2.2.2.2⟩⟩, fun e => (by cases e)⟩
    · have cell : ∀ k, k < len → w.cell? (a'.add k) = some (.slice (q k).1 (q k).2.1 (q k).2.2.1) := fun k hk => by
        have h1 := (hq k hk).1
        rw [hct, Nat.mul_one] at h1
        unfold World.cells? at h1
        split at h1
        · have h2 := (mapM_get h1).2 0 (by simp)
          simpa [Addr.add] using h2
        · simp at h1
      obtain ⟨b, off, spot⟩ := a'
      have c0 := cell 0 hp
      have hspot : spot = none := by simpa [Addr.add] using World.cell?_spot c0
      subst hspot
      refine ⟨b, off, rfl, ?_, fun k hk => ?_⟩
      · have := World.block_lt_of_cell? w _ c0
        simpa [Addr.add] using this
      · have := cell k hk
        rwa [Go.WideShapes.add_plain] at this
    · have := (hq i hi).2.2.1
      unfold maxLen at this
      omega
end Go.Proofs.Ytdlghiekcgplaaa
