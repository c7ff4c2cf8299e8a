/- Bytes that are appended to a slice of the call's own. -/
import Derived.Test.YtnjjejhniekdcaaSame
import Derived.Laws.AppendOwn
import Derived.Laws.AppendOwnNone
import Derived.Laws.OwnMore
import Derived.ProofKit
namespace Go.Proofs.Ytnjjejhniekdcaa
set_option linter.unusedVariables false
set_option linter.unusedSimpArgs false
open Go.RowKit
theorem u8Info : (Try.prog.info? 5).map (fun i => (i.zero, i.size, i.bytes)) = some (some (.int .u8 0), 1, 1) := by kernel_rfl
/-- a slice of bytes of the call's own. -/
def OwnB (w : World) (base : Nat) (v : Value) (n : Nat) (zs : List Int) : Prop := w.ownsRow base 5 1 v n (zs.map (Value.int .u8)) ∧ ∀ k : Nat, 0 ≤ zs[k]?.getD 0 ∧ zs[k]?.getD 0 < 256
theorem OwnB.len {w : World} {base : Nat} {v : Value} {n : Nat} {zs : List Int} (h : OwnB w base v n zs) : zs.length = n := by
  have := h.1.1; simpa using this
theorem OwnB.alloc {w : World} {base : Nat} {v : Value} {n : Nat} {zs : List Int} (h : OwnB w base v n zs) (o : Obj) : OwnB (w.alloc o) base v n zs := ⟨h.1.alloc o, h.2⟩
theorem OwnB.below {w w' : World} {base : Nat} {v : Value} {n : Nat} {zs : List Int} (h : OwnB w base v n zs) (hb : Below w.heap.size w w') : OwnB w' base v n zs := ⟨own_below h.1 hb, h.2⟩
theorem bytes_append {xs ys : List Int} (hx : ∀ k : Nat, 0 ≤ xs[k]?.getD 0 ∧ xs[k]?.getD 0 < 256) (hy : ∀ k : Nat, 0 ≤ ys[k]?.getD 0 ∧ ys[k]?.getD 0 < 256) : ∀ k : Nat, 0 ≤ (xs ++ ys)[k]?.getD 0 ∧ (xs ++ ys)[k]?.getD 0 < 256 := by
  intro k
  by_cases h : k < xs.length
  · rw [List.getElem?_append_left h]; exact hx k
  · rw [List.getElem?_append_right (by omega)]; exact hy _
/-- what an owned row reads as. -/
theorem OwnB.at {w : World} {base : Nat} {v : Value} {n : Nat} {zs : List Int} (h : OwnB w base v n zs) (hn : n ≤ 140737488355328) :
    ∃ a cap, v = .slice a n cap ∧ n ≤ cap ∧ cap ≤ 9223372036854775807 ∧ BytesAt w a n zs ∧ (∀ b off, a = some ⟨b, off, none⟩ → base ≤ b ∧ off = 0 ∧ b < w.heap.size ∧ ∀ o, w.frozen? ⟨b, o, none⟩ = false) ∧ (a = none ∨ ∃ b, a = some ⟨b, 0, none⟩) := by
  have hl := h.len
  rcases h.1.2 with ⟨rfl, rfl⟩ | ⟨g, cap, cur, rfl, hbg, hg, hnc, hcm, hcs, htake⟩
  · have hz : zs = [] := List.eq_nil_of_length_eq_zero hl
    subst hz
    exact ⟨none, 0, rfl, by omega, by omega, BytesAt.nil w, ⟨fun b off e => (by cases e), Or.inl rfl⟩⟩
  · have hlt := (h.1.lt g rfl).2
    refine ⟨some ⟨g, 0, none⟩, cap, rfl, hnc, by unfold maxLen at hcm; omega, ⟨hl, hn, h.2, fun hp => ⟨g, 0, rfl, hlt, fun k hk => ?_⟩⟩, ⟨fun b off e => ?_, Or.inr ⟨g, rfl⟩⟩⟩
    · have := h.1.cellAt k (by omega)
      rw [Nat.zero_add, this, List.getElem?_map, List.getElem?_eq_getElem (by omega)]
      simp [hl, hk]
    · injection e with e; injection e with e1 e2; subst e1; subst e2
      exact ⟨hbg, rfl, hlt, fun o => h.1.frozenAt o⟩
theorem wpList_append_bytes {w : World} {ops : Array Oper} {rest : List Oper} {o : Oper} {a : Act} {Q : Exit → Act → World → Prop} (hgd : o.guard = none) (s x : Operand)
    (ho : o.op = .call { callee := .builtin .append, args := #[s, x], argTypes := #[32, 32] }) {base : Nat} {v : Value} {n : Nat} {xs : List Int} (hs : a.eval s = v) (hown : OwnB w base v n xs)
    {ad : Option Addr} {m c : Nat} {ys : List Int} (hx : a.eval x = .slice ad m c) (hy : BytesAt w ad m ys) (hnone : ad = none → c = 0) (hb : n + m ≤ 140737488355328) (hbase : base ≤ w.heap.size)
    (h : ∀ v' w', OwnB w' base v' (n + m) (xs ++ ys) → Below base w w' → wpList Try.prog ops Q rest (a.put o.dst v') w') : wpList Try.prog ops Q (o :: rest) a w := by
  obtain ⟨inf, hin, hi0, hi1, hi2⟩ := info_parts u8Info
  by_cases hm : m = 0
  · subst hm
    have hz : ys = [] := List.eq_nil_of_length_eq_zero hy.length
    subst hz
    cases ad with
    | none =>
      obtain rfl := hnone rfl
      refine wpList_append_own_none hgd s x 32 ho base 5 inf 1 Try.underlying32 hin v n (xs.map (Value.int .u8)) hs hown.1 hx ?_
      refine h v w (by simpa using hown) (Below.refl _ _)
    | some ad =>
      refine wpList_append_own _ hgd s x 32 ho base 5 inf _ 1 1 Try.underlying32 hin hi0 hi1 hi2 rfl (by decide) v n (xs.map (Value.int .u8)) hs hown.1 ad 0 c [] hx (by simp) (by simp) (by simp) (by unfold maxLen; omega) (by omega) hbase ?_
      intro v' w' h1 h2 _
      exact h v' w' ⟨by simpa using h1, by simpa using hown.2⟩ ((Below.refl base w).grown h2 hbase (fun k hk => (World.ownsRow.lt hown.1 k hk).1))
  · obtain ⟨b, off, rfl, hb1, hc⟩ := hy.cells (by omega)
    refine wpList_append_own _ hgd s x 32 ho base 5 inf _ 1 1 Try.underlying32 hin hi0 hi1 hi2 rfl (by decide) v n (xs.map (Value.int .u8)) hs hown.1 ⟨b, off, none⟩ m c (ys.map (Value.int .u8)) hx (by simp [hy.length]) ?_ ?_ (by unfold maxLen; omega) (by omega) hbase ?_
    · intro j u hj
      rw [List.getElem?_map] at hj
      by_cases hjm : j < ys.length
      · rw [List.getElem?_eq_getElem hjm] at hj
        have := hc j (by rw [← hy.length]; exact hjm)
        rw [List.getElem?_eq_getElem hjm] at this
        simp at hj this
        rw [← hj, Go.WideShapes.add_plain]
        exact this
      · rw [List.getElem?_eq_none (by omega)] at hj; simp at hj
    · intro u hu
      obtain ⟨z, _, rfl⟩ := List.mem_map.1 hu
      rfl
    · intro v' w' h1 h2 _
      refine h v' w' ⟨?_, bytes_append hown.2 hy.byte⟩ ((Below.refl base w).grown h2 hbase (fun k hk => (World.ownsRow.lt hown.1 k hk).1))
      rw [List.map_append]; exact h1
theorem wpList_append_b2 {w : World} {ops : Array Oper} {rest : List Oper} {o : Oper} {a : Act} {Q : Exit → Act → World → Prop} (hgd : o.guard = none) (s x : Operand)
    (ho : o.op = .call { callee := .builtin .append, args := #[s, x], argTypes := #[32, 32] }) {base : Nat} {v : Value} {n : Nat} {xs : List Int} (hown : OwnB w base v n xs) (hs : a.eval s = v)
    {ad : Option Addr} {m c : Nat} {ys : List Int} (hy : BytesAt w ad m ys) (hx : a.eval x = .slice ad m c) (hnone : ad = none → c = 0) (hb : n + m ≤ 140737488355328) (hbase : base ≤ w.heap.size)
    (h : ∀ v' w', OwnB w' base v' (n + m) (xs ++ ys) → Below base w w' → wpList Try.prog ops Q rest (a.put o.dst v') w') : wpList Try.prog ops Q (o :: rest) a w :=
  wpList_append_bytes hgd s x ho hs hown hx hy hnone hb hbase h
end Go.Proofs.Ytnjjejhniekdcaa
