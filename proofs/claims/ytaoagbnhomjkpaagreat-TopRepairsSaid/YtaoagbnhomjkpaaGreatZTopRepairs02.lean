import Derived.ProofKit
import Derived.OpenShut
import Derived.ChangeOld
import Derived.Test.YtaoagbnhomjkpaaGreatZTopRates00
/- Plain data that came in, opened by the cells' kinds of its type: numbers, bools, structs and arrays of these, by value or behind a slice. And an argument that is handed back as it was. -/
namespace Go.Proofs.YtaoagbnhomjkpaaGreat
set_option linter.unusedVariables false
set_option linter.unusedSimpArgs false
open Go.RowKit Go.ChangeShapes Go.WideShapes Go.ChangeAt
/-- what one cell may hold: a bool, or a number of a kind. -/
def leafOk : Option IntKind → Value → Prop
  | none, v => ∃ b, v = .bool b
  | some k, v => ∃ n, v = .int k n ∧ (Lit.int k n).wf = true
def fitsAll : List (Option IntKind) → List Value → Prop
  | [], [] => True
  | l :: ls, v :: vs => leafOk l v ∧ fitsAll ls vs
  | _, _ => False
theorem fits_append : ∀ {a b : List (Option IntKind)} {x y : List Value}, fitsAll a x → fitsAll b y → fitsAll (a ++ b) (x ++ y)
  | [], _, [], _, _, h => h
  | _ :: a, b, _ :: x, y, h, h' => ⟨h.1, fits_append (a := a) (b := b) (x := x) (y := y) h.2 h'⟩
  | [], _, _ :: _, _, h, _ => h.elim
  | _ :: _, _, [], _, h, _ => h.elim
theorem fits_length : ∀ {a : List (Option IntKind)} {x : List Value}, fitsAll a x → x.length = a.length
  | [], [], _ => rfl
  | _ :: a, _ :: x, h => by simp [fits_length (a := a) (x := x) h.2]
  | [], _ :: _, h => h.elim
  | _ :: _, [], h => h.elim
theorem fits_cons {l : Option IntKind} {ls : List (Option IntKind)} {cs : List Value} (h : fitsAll (l :: ls) cs) : ∃ v vs, cs = v :: vs ∧ leafOk l v ∧ fitsAll ls vs := by
  cases cs with
  | nil => exact h.elim
  | cons v vs => exact ⟨v, vs, rfl, h.1, h.2⟩
theorem fits_nil {cs : List Value} (h : fitsAll [] cs) : cs = [] := by
  cases cs with
  | nil => rfl
  | cons v vs => exact h.elim
def leavesAt (r : TypeId → Option (List (Option IntKind))) (P : Program) : Nat → List (TypeId × Nat) → Option (List (Option IntKind))
  | _, [] => some []
  | off, (t, o) :: l => if o = off then (r t).bind fun ls => if ls.length = P.cellsOf t then (leavesAt r P (off + ls.length) l).map (ls ++ ·) else none else none
/-- the cells' kinds of a type of plain data. -/
def leaves (P : Program) : Nat → TypeId → Option (List (Option IntKind))
  | 0, _ => none
  | n + 1, t => match P.underlying t with
    | some .bool => some [none]
    | some (.int k) => some [some k]
    | some (.struct fs) => (leavesAt (leaves P n) P 0 (fs.toList.map fun f => (f.type, f.offset))).bind fun l => if l.length = P.cellsOf t then some l else none
    | some (.array m e) => (leavesAt (leaves P n) P 0 ((List.range m).map fun i => (e, i * P.cellsOf e))).bind fun l => if l.length = P.cellsOf t then some l else none
    | _ => none
theorem leavesAt_fits {r : TypeId → Option (List (Option IntKind))} {P : Program} (cs : List Value) : ∀ (l : List (TypeId × Nat)) (off : Nat) (L : List (Option IntKind)), leavesAt r P off l = some L →
    (∀ p ∈ l, ∀ ls, r p.1 = some ls → fitsAll ls ((cs.drop p.2).take (P.cellsOf p.1))) → fitsAll L ((cs.drop off).take L.length)
  | [], off, L, h, _ => by
    simp only [leavesAt, Option.some.injEq] at h
    subst h; simp [fitsAll]
  | (t, o) :: l, off, L, h, hp => by
    simp only [leavesAt] at h
    split at h
    · rename_i ho
      subst ho
      cases hr : r t with
      | none => rw [hr] at h; simp at h
      | some ls =>
        rw [hr] at h
        simp only [Option.bind_some] at h
        split at h
        · rename_i hl
          cases hx : leavesAt r P (o + ls.length) l with
          | none => rw [hx] at h; simp at h
          | some L' =>
            rw [hx] at h
            simp only [Option.map_some, Option.some.injEq] at h
            subst h
            have h1 := hp (t, o) (by simp) ls hr
            have h2 := leavesAt_fits cs l (o + ls.length) L' hx (fun p hm => hp p (by simp [hm]))
            rw [List.length_append, List.take_add, List.drop_drop]
            refine fits_append ?_ h2
            rw [hl]; exact h1
        · simp at h
    · simp at h
theorem trod_leaves {H : Type} {enc : TypeId × Value → H} {P : Program} {w : World} {base : Nat} {spare : Nat → Bool} {held : Bool} : ∀ (n : Nat) (t : TypeId) (ls : List (Option IntKind)), leaves P n t = some ls →
    ∀ (fuel : Nat) (cs : List Value) (x : DataW H × List MemPlace), DataW.trod enc P w base spare held fuel t cs = some x → fitsAll ls cs
  | 0, _, _, h => by simp [leaves] at h
  | n + 1, t, ls, h => by
    intro fuel cs x hx
    unfold leaves at h
    split at h
    · rename_i ht
      obtain ⟨b, rfl, _⟩ := DataW.trod_bool ht hx
      simp only [Option.some.injEq] at h
      subst h
      exact ⟨⟨b, rfl⟩, trivial⟩
    · rename_i k ht
      obtain ⟨m, rfl, _, hw⟩ := DataW.trod_int ht hx
      simp only [Option.some.injEq] at h
      subst h
      exact ⟨⟨m, rfl, hw⟩, trivial⟩
    · rename_i fs ht
      obtain ⟨xs, m, _, _, hl, hlen, hf⟩ := DataW.trod_struct ht hx
      cases hL : leavesAt (leaves P n) P 0 (fs.toList.map fun f => (f.type, f.offset)) with
      | none => rw [hL] at h; simp at h
      | some L =>
        rw [hL] at h
        simp only [Option.bind_some] at h
        split at h
        · rename_i hc
          simp only [Option.some.injEq] at h
          subst h
          have := leavesAt_fits cs _ _ _ hL (fun p hp ls hls => by
            obtain ⟨f, hf1, rfl⟩ := List.mem_map.1 hp
            obtain ⟨i, hi, hi2⟩ := List.getElem_of_mem hf1
            have hfi : fs[i]? = some f := by
              rw [Array.getElem?_eq_getElem (by simpa using hi)]; simpa using hi2
            have h1 := hf i f hfi
            have hi' : i < xs.length := by rw [hlen]; simpa using hi
            rw [List.getElem?_eq_getElem hi'] at h1
            exact trod_leaves n f.type ls hls m _ _ h1)
          rwa [List.drop_zero, List.take_of_length_le (by omega)] at this
        · simp at h
    · rename_i m e ht
      obtain ⟨xs, m', _, _, hl, hlen, hf⟩ := DataW.trod_array ht hx
      cases hL : leavesAt (leaves P n) P 0 ((List.range m).map fun i => (e, i * P.cellsOf e)) with
      | none => rw [hL] at h; simp at h
      | some L =>
        rw [hL] at h
        simp only [Option.bind_some] at h
        split at h
        · rename_i hc
          simp only [Option.some.injEq] at h
          subst h
          have := leavesAt_fits cs _ _ _ hL (fun p hp ls hls => by
            obtain ⟨i, hi, rfl⟩ := List.mem_map.1 hp
            have hi : i < m := by simpa using hi
            have h1 := hf i hi
            have hi' : i < xs.length := by omega
            rw [List.getElem?_eq_getElem hi'] at h1
            exact trod_leaves n e ls hls m' _ _ h1)
          rwa [List.drop_zero, List.take_of_length_le (by omega)] at this
        · simp at h
    · simp at h
def isAgg (P : Program) (t : TypeId) : Bool := match P.underlying t with | some (.struct _) | some (.array _ _) => true | _ => false
/-- a struct, or an array, by value. -/
theorem open_flat {H : Type} {enc : TypeId × Value → H} {P : Program} {w w' : World} {r : Reach} {b0 base : Nat} {spare : Nat → Bool} {held : Bool} {t : TypeId} {v : Value} {d : DataW H} {p : List MemPlace} {n : Nat} {ls : List (Option IntKind)}
    (ha : isAgg P t = true) (hl : leaves P n t = some ls) (hv : Value.okWide P w' r b0 t v) (h : DataW.Trod enc P w base spare held t v d p) : ∃ cs : List Value, v = .agg cs.toArray ∧ fitsAll ls cs := by
  have hc : ∃ cs, v = .agg cs := by
    unfold isAgg at ha
    unfold Value.okWide at hv
    split at ha
    · rename_i ht; rw [ht] at hv; obtain ⟨cs, h1, _⟩ := hv; exact ⟨cs, h1⟩
    · rename_i ht; rw [ht] at hv; obtain ⟨cs, h1, _⟩ := hv; exact ⟨cs, h1⟩
    · cases ha
  obtain ⟨cs, rfl⟩ := hc
  obtain ⟨fuel, hf⟩ := h
  exact ⟨cs.toList, by simp, trod_leaves n t ls hl fuel _ _ (by simpa [Value.cells] using hf)⟩
theorem mapM_get {α β : Type} {f : α → Option β} : ∀ {l : List α} {xs : List β}, l.mapM f = some xs → xs.length = l.length ∧ ∀ i (h : i < l.length), f l[i] = xs[i]?
  | [], xs, h => by
    simp only [List.mapM_nil, Option.pure_def, Option.some.injEq] at h
    subst h; exact ⟨rfl, fun i h => by simp at h⟩
  | a :: l, xs, h => by
    rw [List.mapM_cons] at h
    cases ha : f a with
    | none => rw [ha] at h; simp at h
    | some y =>
      cases hl : l.mapM f with
      | none => rw [ha, hl] at h; simp at h
      | some ys =>
        rw [ha, hl] at h
        simp at h
        subst h
        obtain ⟨h1, h2⟩ := mapM_get hl
        refine ⟨by simp [h1], fun i hi => ?_⟩
        cases i with
        | zero => simpa using ha
        | succ i => simpa using h2 i (by simpa using hi)
/-- a slice of plain data: what its elements' cells hold. -/
theorem open_rows {H : Type} {enc : TypeId × Value → H} {P : Program} {w w' : World} {r : Reach} {b0 base : Nat} {spare : Nat → Bool} {held : Bool} {t e : TypeId} {v : Value} {d : DataW H} {p : List MemPlace} {n : Nat} {ls : List (Option IntKind)}
    (ht : P.underlying t = some (.slice e)) (hl : leaves P n e = some ls) (hc : 0 < P.cellsOf e) (hv : Value.okWide P w' r b0 t v) (h : DataW.Trod enc P w base spare held t v d p) :
    ∃ (a : Option Addr) (len cap : Nat) (es : List (List Value)), v = .slice a len cap ∧ len ≤ cap ∧ cap ≤ maxLen ∧ es.length = len ∧ (∀ x ∈ es, fitsAll ls x) ∧
      (0 < len → ∃ b off, a = some ⟨b, off, none⟩ ∧ b < w.heap.size ∧ ∀ i (hi : i < es.length) k (hk : k < P.cellsOf e), w.cell? ⟨b, off + (i * P.cellsOf e + k), none⟩ = es[i][k]?) ∧ (a = none → cap = 0) := by
  obtain ⟨a, len, cap, rfl⟩ := okWide_slice ht hv
  obtain ⟨fuel, hf⟩ := h
  have hf : DataW.trod enc P w base spare held fuel t [.slice a len cap] = some (d, p) := by simpa [Value.cells] using hf
  rcases DataW.trod_slice ht hf with ⟨h0, _⟩ | ⟨a', len', cap', elems, rest, m, _, h0, _, hb, hle, hm, hlen, hel, _⟩
  · simp only [List.cons.injEq, Value.slice.injEq, and_true] at h0
    obtain ⟨rfl, rfl, rfl⟩ := h0
    exact ⟨none, 0, 0, [], rfl, by omega, by unfold maxLen; omega, rfl, by simp, by omega, fun _ => rfl⟩
  · simp only [List.cons.injEq, Value.slice.injEq, and_true] at h0
    obtain ⟨rfl, rfl, rfl⟩ := h0
    have key : ∀ i, i < len → ∃ cs, w.cells? base (a'.add (i * P.cellsOf e)) (P.cellsOf e) = some cs ∧ fitsAll ls cs := fun i hi => by
      have h1 := hel i hi
      rw [List.getElem?_eq_getElem (by omega : i < elems.length)] at h1
      cases hcs : w.cells? base (a'.add (i * P.cellsOf e)) (P.cellsOf e) with
      | none => rw [hcs] at h1; simp at h1
      | some cs => rw [hcs] at h1; exact ⟨cs, rfl, trod_leaves n e ls hl m cs _ (by simpa using h1)⟩
    obtain ⟨es, hes, hes2⟩ : ∃ es : List (List Value), es.length = len ∧ ∀ i (hi : i < es.length), w.cells? base (a'.add (i * P.cellsOf e)) (P.cellsOf e) = some es[i] ∧ fitsAll ls es[i] := by
      refine ⟨(List.range len).map fun i => (w.cells? base (a'.add (i * P.cellsOf e)) (P.cellsOf e)).getD [], by simp, fun i hi => ?_⟩
      obtain ⟨cs, h1, h2⟩ := key i (by simpa using hi)
      simp [h1, h2]
    refine ⟨some a', len, cap, es, rfl, hle, hm, hes, fun x hx => ?_, fun hp => ?_, fun e => (by cases e)⟩
    · obtain ⟨i, hi, rfl⟩ := List.getElem_of_mem hx
      exact (hes2 i hi).2
    · have cell : ∀ i (hi : i < es.length) k (hk : k < P.cellsOf e), w.cell? ((a'.add (i * P.cellsOf e)).add k) = es[i][k]? := fun i hi k hk => by
        have h1 := (hes2 i hi).1
        unfold World.cells? at h1
        split at h1
        · have h2 := (mapM_get h1).2 k (by simpa using hk)
          simpa using h2
        · simp at h1
      have len_e : ∀ i (hi : i < es.length), es[i].length = P.cellsOf e := fun i hi => by
        have h1 := (hes2 i hi).1
        unfold World.cells? at h1
        split at h1
        · simpa using (mapM_get h1).1
        · simp at h1
      have c0 := cell 0 (by omega) 0 hc
      have l0 := len_e 0 (by omega)
      rw [List.getElem?_eq_getElem (by omega)] at c0
      obtain ⟨b, off, spot⟩ := a'
      have hspot : spot = none := by simpa [Addr.add] using World.cell?_spot c0
      subst hspot
      refine ⟨b, off, rfl, ?_, fun i hi k hk => ?_⟩
      · have := World.block_lt_of_cell? w _ c0
        simpa [Addr.add] using this
      · have := cell i hi k hk
        rw [Go.WideShapes.add_plain, Go.WideShapes.add_plain, Nat.add_assoc] at this
        exact this
/-- an argument reads behind the call as it read before. -/
theorem keep_arg {H : Type} {enc : TypeId × Value → H} {P : Program} {t : TypeId} (hl : laidOutB P = true) (hr : P.readableRec t = true) (hrow : t < P.types.size) {W W' : World} {v : Value} {d : DataW H} {ps : List MemPlace}
    (h : DataW.Trod enc P W 0 (fun _ => true) true t v d ps) (hb : Below W.heap.size W W') : DataW.Trod enc P W' 0 (fun b => decide (b < W.heap.size)) true t v d ps :=
  Below.trod hl hr hrow h hb (by obtain ⟨n, hn⟩ := h; exact DataW.trod_lt n t _ _ hn)
end Go.Proofs.YtaoagbnhomjkpaaGreat

/- An array of bytes, its length as large as one likes, out of the frame. -/
namespace Go.Proofs.YtaoagbnhomjkpaaGreat
set_option linter.unusedVariables false
open Go.RowKit
theorem fits_bytes : ∀ {n : Nat} {cs : List Value} (h : fitsAll (List.replicate n (some .u8)) cs), ∃ zs : List Int, cs = zs.map (Value.int .u8) ∧ zs.length = n ∧ ∀ z ∈ zs, 0 ≤ z ∧ z < 256
  | 0, cs, h => ⟨[], by rw [fits_nil h]; rfl, rfl, fun _ h => nomatch h⟩
  | n + 1, cs, h => by
    rw [List.replicate_succ] at h
    obtain ⟨_, _, rfl, ⟨x, rfl, w⟩, g⟩ := fits_cons h
    obtain ⟨zs, rfl, hl, hz⟩ := fits_bytes g
    have hb := wf_u8 w
    refine ⟨x :: zs, rfl, by simp [hl], fun z hm => ?_⟩
    rcases List.mem_cons.1 hm with rfl | hm
    · omega
    · exact hz z hm
end Go.Proofs.YtaoagbnhomjkpaaGreat
