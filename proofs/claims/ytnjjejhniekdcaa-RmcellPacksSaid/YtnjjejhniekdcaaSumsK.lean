/- Small words on bytes: laid, appended behind a full slice; a guard that is met. -/
import Derived.Test.YtnjjejhniekdcaaRef01
import Derived.Test.YtnjjejhniekdcaaLead
import Derived.ArgAppend
import Derived.Deep.OwnRows
namespace Go.Proofs.Ytnjjejhniekdcaa
set_option linter.unusedVariables false
set_option linter.unusedSimpArgs false
open Go.RowKit
set_option maxRecDepth 100000
set_option maxHeartbeats 4000000
/-- bytes in a block that has just been laid. -/
theorem bytes_row {w : World} {g : Nat} {E : TypeId} {fr : Nat × Nat} (zs : List Int) (hg : w.heap[g]? = some (.cells (zs.map (Value.int .u8)).toArray E fr)) (hb : ∀ z ∈ zs, 0 ≤ z ∧ z < 256) (hm : zs.length ≤ 140737488355328) :
    BytesAt w (some ⟨g, 0, none⟩) zs.length zs := by
  refine ⟨rfl, hm, fun k => ?_, fun _ => ⟨g, 0, rfl, ?_, fun k hk => ?_⟩⟩
  · by_cases hk : k < zs.length
    · rw [List.getElem?_eq_getElem hk]; exact hb _ (List.getElem_mem hk)
    · rw [List.getElem?_eq_none (by omega)]; simp
  · rcases Nat.lt_or_ge g w.heap.size with h' | h'
    · exact h'
    · simp [Array.getElem?_eq_none h'] at hg
  · rw [Nat.zero_add, cell_of_row w g k _ _ _ hg]
    simp [hk]
theorem bytes_lit {w : World} {E : TypeId} {fr : Nat × Nat} (zs : List Int) (hb : ∀ z ∈ zs, 0 ≤ z ∧ z < 256) (hm : zs.length ≤ 140737488355328) : BytesAt (w.alloc (.cells (zs.map (Value.int .u8)).toArray E fr)) (some ⟨w.heap.size, 0, none⟩) zs.length zs :=
  bytes_row zs (heap_alloc_new _ _) hb hm
/-- an operation whose guard is met may be walked as one that has none. -/
theorem wpList_unguard {P : Program} {ops : Array Oper} {Q : Exit → Act → World → Prop} {a : Act} {w : World} {rest : List Oper} {d : Option Nat} {op : Op} {t : TypeId} {p : String} {af : Array Edge} {g : Option (Nat × Bool)}
    (hw : Region.wanted ⟨d, op, t, p, af, g⟩ (yielded ops a.tmps) = true) (h : wpList P ops Q (⟨d, op, t, p, af, none⟩ :: rest) a w) : wpList P ops Q (⟨d, op, t, p, af, g⟩ :: rest) a w := by
  unfold wpList at h ⊢
  rw [if_pos hw]
  rw [if_pos (show Region.wanted ⟨d, op, t, p, af, none⟩ _ = true from rfl)] at h
  exact h
/-- bytes behind a slice that is full. -/
theorem wpList_append_full {w : World} {ops : Array Oper} {rest : List Oper} {o : Oper} {a : Act} {Q : Exit → Act → World → Prop} (hgd : o.guard = none) (s x : Operand)
    (ho : o.op = .call { callee := .builtin .append, args := #[s, x], argTypes := #[32, 32] }) {ad0 : Option Addr} {n cap : Nat} {xs : List Int} (hs : a.eval s = .slice ad0 n cap) (hxs : BytesAt w ad0 n xs) (hn0 : ad0 = none → cap = 0)
    {ad : Option Addr} {m c : Nat} {ys : List Int} (hx : a.eval x = .slice ad m c) (hy : BytesAt w ad m ys) (hm : 0 < m) (hfull : cap < n + m) (hb : n + m ≤ 140737488355328)
    (h : ∀ v' w', OwnB w' w.heap.size v' (n + m) (xs ++ ys) → Below w.heap.size w w' → wpList Try.prog ops Q rest (a.put o.dst v') w') : wpList Try.prog ops Q (o :: rest) a w := by
  obtain ⟨inf, hin, hi0, hi1, hi2⟩ := info_parts u8Info
  obtain ⟨b, off, rfl, hb1, hc⟩ := hy.cells hm
  have news : ∀ j u, (ys.map (Value.int .u8))[j]? = some u → w.cell? ((⟨b, off, none⟩ : Addr).add j) = some u := by
    intro j u hj
    rw [List.getElem?_map] at hj
    by_cases hjm : j < ys.length
    · rw [List.getElem?_eq_getElem hjm] at hj
      have := hc j (by rw [← hy.length]; exact hjm)
      rw [List.getElem?_eq_getElem hjm] at this
      simp at hj this
      rw [← hj, Go.WideShapes.add_plain]
      exact this
    · rw [List.getElem?_eq_none (by omega)] at hj; simp at hj
  refine wpList_append_grows _ hgd s x 32 ho 5 inf _ 1 1 Try.underlying32 hin hi0 hi1 hi2 rfl (by decide) ad0 n cap (xs.map (Value.int .u8)) hs ?_ (by simp [hxs.length]) ?_ ⟨b, off, none⟩ m c (ys.map (Value.int .u8)) hx (by simp [hy.length]) news ?_ hfull (by unfold maxLen; omega) (by omega) ?_
  · intro e
    refine ⟨?_, hn0 e⟩
    rcases Nat.eq_zero_or_pos n with h0 | h0
    · exact h0
    · obtain ⟨_, _, e2, _⟩ := hxs.cells h0
      rw [e] at e2; cases e2
  · intro b' e j u hj
    rw [List.getElem?_map] at hj
    by_cases hjm : j < xs.length
    · obtain ⟨b2, o2, e2, _, hc2⟩ := hxs.cells (by rw [← hxs.length]; omega)
      rw [e] at e2; injection e2 with e2; subst e2
      rw [List.getElem?_eq_getElem hjm] at hj
      have := hc2 j (by rw [← hxs.length]; exact hjm)
      rw [List.getElem?_eq_getElem hjm] at this
      simp at hj this
      rw [← hj, Go.WideShapes.add_plain]
      exact this
    · rw [List.getElem?_eq_none (by omega)] at hj; simp at hj
  · intro u hu
    obtain ⟨z, _, rfl⟩ := List.mem_map.1 hu
    rfl
  · intro v' w' h1 h2
    refine h v' w' ⟨?_, bytes_append hxs.byte hy.byte⟩ (below_grown h2 (fun k hk => by cases hk))
    rw [List.map_append]; exact h1
theorem own_nil {w : World} {base : Nat} {a : Option Addr} {n c : Nat} {zs : List Int} (h : OwnB w base (.slice a n c) n zs) (ha : a = none) : c = 0 := by
  subst ha
  rcases h.1.2 with ⟨h1, _⟩ | ⟨g, cap, cur, h1, _⟩
  · injection h1
  · cases h1
end Go.Proofs.Ytnjjejhniekdcaa
