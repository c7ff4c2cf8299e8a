/- Numbers that are appended to a slice of the call's own, and stored into it. -/
import Derived.Test.YtndmmhljphlhjaaKit3
import Derived.Laws.AppendOwn
import Derived.Laws.AppendOwnNone
import Derived.Laws.OwnMore
import Derived.ProofKit
namespace Go.Proofs.Ytndmmhljphlhjaa
set_option linter.unusedVariables false
set_option linter.unusedSimpArgs false
open Go.RowKit
theorem i64Info : (Try.prog.info? 3).map (fun i => (i.zero, i.size, i.bytes)) = some (some (.int .i64 0), 1, 8) := by kernel_rfl
/-- a slice of numbers that reads as zs. -/
structure IntsAt (w : World) (a : Option Addr) (len : Nat) (zs : List Int) : Prop where
  length : zs.length = len
  most : len ≤ 17592186044416
  cells : 0 < len → ∃ b off, a = some ⟨b, off, none⟩ ∧ b < w.heap.size ∧ ∀ k, k < len → w.cell? ⟨b, off + k, none⟩ = some (.int .i64 (zs[k]?.getD 0))
theorem IntsAt.below {w w' : World} {a : Option Addr} {len : Nat} {zs : List Int} (h : IntsAt w a len zs) (hb : Below w.heap.size w w') : IntsAt w' a len zs :=
  ⟨h.length, h.most, fun hp => by
    obtain ⟨b, off, h1, h2, h3⟩ := h.cells hp
    exact ⟨b, off, h1, Nat.lt_of_lt_of_le h2 hb.size, fun k hk => (hb.cell (p := ⟨b, off + k, none⟩) h2).trans (h3 k hk)⟩⟩
theorem IntsAt.nil (w : World) : IntsAt w none 0 [] := ⟨rfl, by omega, fun h => by omega⟩
/-- a slice of numbers of the call's own. -/
def OwnI (w : World) (base : Nat) (v : Value) (n : Nat) (zs : List Int) : Prop := w.ownsRow base 3 1 v n (zs.map (Value.int .i64))
theorem OwnI.len {w : World} {base : Nat} {v : Value} {n : Nat} {zs : List Int} (h : OwnI w base v n zs) : zs.length = n := by
  have := h.1; simpa using this
theorem OwnI.alloc {w : World} {base : Nat} {v : Value} {n : Nat} {zs : List Int} (h : OwnI w base v n zs) (o : Obj) : OwnI (w.alloc o) base v n zs := World.ownsRow.alloc h o
theorem OwnI.below {w w' : World} {base : Nat} {v : Value} {n : Nat} {zs : List Int} (h : OwnI w base v n zs) (hb : Below w.heap.size w w') : OwnI w' base v n zs := own_below h hb
theorem OwnI.nil (w : World) (base : Nat) : OwnI w base (.slice none 0 0) 0 [] := World.ownsRow_nil w base _ 1
theorem OwnI.at {w : World} {base : Nat} {v : Value} {n : Nat} {zs : List Int} (h : OwnI w base v n zs) (hn : n ≤ 17592186044416) :
    ∃ a cap, v = .slice a n cap ∧ n ≤ cap ∧ cap ≤ 9223372036854775807 ∧ IntsAt w a n zs ∧ (∀ b off, a = some ⟨b, off, none⟩ → base ≤ b ∧ off = 0 ∧ b < w.heap.size ∧ ∀ o, w.frozen? ⟨b, o, none⟩ = false) ∧ ((a = none ∧ cap = 0) ∨ ∃ b, a = some ⟨b, 0, none⟩) := by
  have hl := h.len
  rcases h.2 with ⟨rfl, rfl⟩ | ⟨g, cap, cur, rfl, hbg, hg, hnc, hcm, hcs, htake⟩
  · have hz : zs = [] := List.eq_nil_of_length_eq_zero hl
    subst hz
    exact ⟨none, 0, rfl, by omega, by omega, IntsAt.nil w, ⟨fun b off e => (by cases e), Or.inl ⟨rfl, rfl⟩⟩⟩
  · have hlt := (h.lt g rfl).2
    refine ⟨some ⟨g, 0, none⟩, cap, rfl, hnc, by unfold maxLen at hcm; omega, ⟨hl, hn, fun hp => ⟨g, 0, rfl, hlt, fun k hk => ?_⟩⟩, ⟨fun b off e => ?_, Or.inr ⟨g, rfl⟩⟩⟩
    · have := World.ownsRow.cellAt h k (by omega)
      rw [Nat.zero_add, this, List.getElem?_map, List.getElem?_eq_getElem (by omega)]
      simp [hl, hk]
    · injection e with e; injection e with e1 e2; subst e1; subst e2
      exact ⟨hbg, rfl, hlt, fun o => World.ownsRow.frozenAt h o⟩
theorem wpList_append_int {w : World} {ops : Array Oper} {rest : List Oper} {o : Oper} {a : Act} {Q : Exit → Act → World → Prop} (hgd : o.guard = none) (s x : Operand)
    (ho : o.op = .call { callee := .builtin .append, args := #[s, x], argTypes := #[47, 47] }) {base : Nat} {v : Value} {n : Nat} {xs : List Int} (hs : a.eval s = v) (hown : OwnI w base v n xs)
    {b : Nat} {z : Int} (hx : a.eval x = .slice (some ⟨b, 0, none⟩) 1 1) (hc : w.cell? ⟨b, 0, none⟩ = some (.int .i64 z)) (hb : n + 1 ≤ 17592186044416) (hbase : base ≤ w.heap.size)
    (h : ∀ v' w', OwnI w' base v' (n + 1) (xs ++ [z]) → Below base w w' → wpList Try.prog ops Q rest (a.put o.dst v') w') : wpList Try.prog ops Q (o :: rest) a w := by
  obtain ⟨inf, hin, hi0, hi1, hi2⟩ := info_parts i64Info
  refine wpList_append_own _ hgd s x 47 ho base 3 inf _ 1 8 Try.underlying47 hin hi0 hi1 hi2 rfl (by decide) v n (xs.map (Value.int .i64)) hs hown ⟨b, 0, none⟩ 1 1 [.int .i64 z] hx rfl ?_ (by simp [Value.oneCell']) (by unfold maxLen; omega) (by omega) hbase ?_
  · intro j u hj
    match j, hj with
    | 0, hj =>
      simp at hj
      rw [← hj]
      simpa [Go.WideShapes.add_plain] using hc
    | j + 1, hj => simp at hj
  · intro v' w' h1 h2 _
    refine h v' w' ?_ ((Below.refl base w).grown h2 hbase (fun k hk => (World.ownsRow.lt hown k hk).1))
    unfold OwnI
    rw [List.map_append]; exact h1
theorem wpList_append_ints {w : World} {ops : Array Oper} {rest : List Oper} {o : Oper} {a : Act} {Q : Exit → Act → World → Prop} (hgd : o.guard = none) (s x : Operand)
    (ho : o.op = .call { callee := .builtin .append, args := #[s, x], argTypes := #[47, 47] }) {base : Nat} {v : Value} {n : Nat} {xs : List Int} (hs : a.eval s = v) (hown : OwnI w base v n xs)
    {ad : Option Addr} {m c : Nat} {ys : List Int} (hx : a.eval x = .slice ad m c) (hy : IntsAt w ad m ys) (hnone : ad = none → c = 0) (hb : n + m ≤ 17592186044416) (hbase : base ≤ w.heap.size)
    (h : ∀ v' w', OwnI w' base v' (n + m) (xs ++ ys) → Below base w w' → wpList Try.prog ops Q rest (a.put o.dst v') w') : wpList Try.prog ops Q (o :: rest) a w := by
  obtain ⟨inf, hin, hi0, hi1, hi2⟩ := info_parts i64Info
  by_cases hm : m = 0
  · subst hm
    have hz : ys = [] := List.eq_nil_of_length_eq_zero hy.length
    subst hz
    cases ad with
    | none =>
      obtain rfl := hnone rfl
      refine wpList_append_own_none hgd s x 47 ho base 3 inf 1 Try.underlying47 hin v n (xs.map (Value.int .i64)) hs hown hx ?_
      refine h v w (by simpa using hown) (Below.refl _ _)
    | some ad =>
      refine wpList_append_own _ hgd s x 47 ho base 3 inf _ 1 8 Try.underlying47 hin hi0 hi1 hi2 rfl (by decide) v n (xs.map (Value.int .i64)) hs hown ad 0 c [] hx (by simp) (by simp) (by simp) (by unfold maxLen; omega) (by omega) hbase ?_
      intro v' w' h1 h2 _
      exact h v' w' (by unfold OwnI; simpa using h1) ((Below.refl base w).grown h2 hbase (fun k hk => (World.ownsRow.lt hown k hk).1))
  · obtain ⟨b, off, rfl, hb1, hc⟩ := hy.cells (by omega)
    refine wpList_append_own _ hgd s x 47 ho base 3 inf _ 1 8 Try.underlying47 hin hi0 hi1 hi2 rfl (by decide) v n (xs.map (Value.int .i64)) hs hown ⟨b, off, none⟩ m c (ys.map (Value.int .i64)) hx (by simp [hy.length]) ?_ ?_ (by unfold maxLen; omega) (by omega) hbase ?_
    · intro j u hj
      rw [List.getElem?_map] at hj
      by_cases hjm : j < ys.length
      · rw [List.getElem?_eq_getElem hjm] at hj
        have := hc j (by rw [← hy.length]; exact hjm)
        rw [List.getElem?_eq_getElem hjm] at this
        simp at hj this
        rw [← hj, Go.WideShapes.add_plain]
        exact this
      · rw [List.getElem?_eq_none (by omega)] at hj; simp at hj
    · intro u hu
      obtain ⟨z, _, rfl⟩ := List.mem_map.1 hu
      rfl
    · intro v' w' h1 h2 _
      refine h v' w' ?_ ((Below.refl base w).grown h2 hbase (fun k hk => (World.ownsRow.lt hown k hk).1))
      unfold OwnI
      rw [List.map_append]; exact h1
end Go.Proofs.Ytndmmhljphlhjaa
