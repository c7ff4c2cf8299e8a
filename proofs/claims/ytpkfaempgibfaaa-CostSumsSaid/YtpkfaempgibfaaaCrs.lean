/- Rows of contracts of the walk's own: append. -/
import Derived.Test.YtpkfaempgibfaaaCostS
import Derived.Laws.AppendOwn
import Derived.Laws.AppendOwnNone
import Derived.Laws.OwnMore
namespace Go.Proofs.Ytpkfaempgibfaaa
set_option linter.unusedVariables false
set_option linter.unusedSimpArgs false
open Go.RowKit
theorem wpList_unguard {P : Program} {ops : Array Oper} {Q : Exit → Act → World → Prop} {a : Act} {w : World} {rest : List Oper} {d : Option Nat} {op : Op} {t : TypeId} {p : String} {af : Array Edge} {g : Option (Nat × Bool)}
    (hw : Region.wanted ⟨d, op, t, p, af, g⟩ (yielded ops a.tmps) = true) (h : wpList P ops Q (⟨d, op, t, p, af, none⟩ :: rest) a w) : wpList P ops Q (⟨d, op, t, p, af, g⟩ :: rest) a w := by
  unfold wpList at h ⊢
  rw [if_pos hw]
  rw [if_pos (show Region.wanted ⟨d, op, t, p, af, none⟩ _ = true from rfl)] at h
  exact h
theorem crInfo : (Try.prog.info? 35).map (fun i => (i.zero, i.size, i.bytes)) = some (some (.agg #[.int .i64 0, .int .i64 0, .int .i64 0, .int .i64 0, .int .i64 0, .int .i64 0]), 6, 48) := by kernel_rfl
abbrev C6.cells (x : C6) : List Value := [.int .i64 x.k, .int .i64 x.p, .int .i64 x.e, .int .i64 x.wh, .int .i64 x.b, .int .i64 x.l]
def flatC : List C6 → List Value
  | [] => []
  | x :: xs => x.cells ++ flatC xs
theorem flatC_len : ∀ cs : List C6, (flatC cs).length = cs.length * 6
  | [] => rfl
  | x :: xs => by unfold flatC; rw [List.length_append, flatC_len xs]; show 6 + xs.length * 6 = (xs.length + 1) * 6; omega
theorem flatC_append : ∀ xs ys : List C6, flatC (xs ++ ys) = flatC xs ++ flatC ys
  | [], _ => rfl
  | x :: xs, ys => by show x.cells ++ flatC (xs ++ ys) = _; rw [flatC_append xs ys, ← List.append_assoc]; rfl
theorem flatC_at : ∀ (cs : List C6) (i : Nat) (x : C6), cs[i]? = some x → ∀ j, j < 6 → (flatC cs)[i * 6 + j]? = x.cells[j]?
  | [], _, _, h, _, _ => by simp at h
  | y :: ys, 0, x, h, j, hj => by
    simp at h; subst h
    unfold flatC
    rw [Nat.zero_mul, Nat.zero_add, List.getElem?_append_left (by simpa using hj)]
  | y :: ys, i + 1, x, h, j, hj => by
    have := flatC_at ys i x (by simpa using h) j hj
    unfold flatC
    rw [List.getElem?_append_right (by simp; omega), ← this]
    congr 1
    simp; omega
theorem flatC_cells {w : World} {b : Nat} : ∀ (cs : List C6) (off : Nat), (∀ i x, cs[i]? = some x → w.cell? ⟨b, off + i * 6, none⟩ = some (.int .i64 x.k) ∧ w.cell? ⟨b, off + i * 6 + 1, none⟩ = some (.int .i64 x.p) ∧ w.cell? ⟨b, off + i * 6 + 2, none⟩ = some (.int .i64 x.e) ∧ w.cell? ⟨b, off + i * 6 + 3, none⟩ = some (.int .i64 x.wh) ∧ w.cell? ⟨b, off + i * 6 + 4, none⟩ = some (.int .i64 x.b) ∧ w.cell? ⟨b, off + i * 6 + 5, none⟩ = some (.int .i64 x.l)) →
    ∀ j u, (flatC cs)[j]? = some u → w.cell? ⟨b, off + j, none⟩ = some u
  | [], _, _, j, u, h => by simp [flatC] at h
  | y :: ys, off, hc, j, u, h => by
    obtain ⟨c0, c1, c2, c3, c4, c5⟩ := hc 0 y (by simp)
    simp only [Nat.zero_mul, Nat.add_zero] at c0 c1 c2 c3 c4 c5
    unfold flatC at h
    match j, h with
    | 0, h => simp at h; subst h; exact c0
    | 1, h => simp at h; subst h; exact c1
    | 2, h => simp at h; subst h; exact c2
    | 3, h => simp at h; subst h; exact c3
    | 4, h => simp at h; subst h; exact c4
    | 5, h => simp at h; subst h; exact c5
    | j + 6, h =>
      have := flatC_cells ys (off + 6) (fun i x hx => by
        have := hc (i + 1) x (by simpa using hx)
        rw [show off + (i + 1) * 6 = off + 6 + i * 6 by omega] at this
        exact this) j u (by simpa using h)
      rw [show off + (j + 6) = off + 6 + j by omega]
      exact this
theorem flatC_one (cs : List C6) : ∀ u ∈ flatC cs, u.oneCell' = true := by
  induction cs with
  | nil => simp [flatC]
  | cons x xs ih =>
    intro u hu
    unfold flatC at hu
    rw [List.mem_append] at hu
    rcases hu with hu | hu
    · simp only [C6.cells, List.mem_cons, List.not_mem_nil, or_false] at hu
      rcases hu with h | h | h | h | h | h <;> (rw [h]; rfl)
    · exact ih u hu
/-- a row of contracts of the call's own. -/
def OwnC (w : World) (base : Nat) (v : Value) (n : Nat) (cs : List C6) : Prop := cs.length = n ∧ w.ownsRow base 35 6 v n (flatC cs)
theorem OwnC.alloc {w : World} {base : Nat} {v : Value} {n : Nat} {cs : List C6} (h : OwnC w base v n cs) (o : Obj) : OwnC (w.alloc o) base v n cs := ⟨h.1, World.ownsRow.alloc h.2 o⟩
theorem OwnC.below {w w' : World} {base : Nat} {v : Value} {n : Nat} {cs : List C6} (h : OwnC w base v n cs) (hb : Below w.heap.size w w') : OwnC w' base v n cs := ⟨h.1, own_below h.2 hb⟩
theorem OwnC.nil (w : World) (base : Nat) : OwnC w base (.slice none 0 0) 0 [] := ⟨rfl, World.ownsRow_nil w base _ 6⟩
theorem OwnC.isnil {w : World} {base : Nat} {a : Option Addr} {n c : Nat} {cs : List C6} (h : OwnC w base (.slice a n c) n cs) (ha : a = none) : c = 0 := by
  subst ha
  rcases h.2.2 with ⟨h1, _⟩ | ⟨g, cap, cur, h1, _⟩
  · injection h1
  · cases h1
theorem OwnC.lit {w : World} {base : Nat} (x : C6) (hb : base ≤ w.heap.size) : OwnC (w.alloc (.cells #[.int .i64 x.k, .int .i64 x.p, .int .i64 x.e, .int .i64 x.wh, .int .i64 x.b, .int .i64 x.l] 35)) base (.slice (some ⟨w.heap.size, 0, none⟩) 1 1) 1 [x] :=
  ⟨rfl, own_made (w := w) (base := base) (E := 35) (size := 6) (n := 1) #[.int .i64 x.k, .int .i64 x.p, .int .i64 x.e, .int .i64 x.wh, .int .i64 x.b, .int .i64 x.l] hb (by unfold maxLen; omega) rfl⟩
theorem OwnC.empty {w : World} {base : Nat} (hb : base ≤ w.heap.size) : OwnC (w.alloc (.cells #[] 35)) base (.slice (some ⟨w.heap.size, 0, none⟩) 0 0) 0 [] :=
  ⟨rfl, own_made (w := w) (base := base) (E := 35) (size := 6) (n := 0) #[] hb (by unfold maxLen; omega) rfl⟩
theorem OwnC.at {w : World} {base : Nat} {v : Value} {n : Nat} {cs : List C6} (h : OwnC w base v n cs) (hn : n ≤ 1000) :
    ∃ a cap, v = .slice a n cap ∧ CrAt w a n cs ∧ (a = Option.none → cap = 0) := by
  have hl := h.1
  have h0 := h
  rcases h.2.2 with ⟨rfl, rfl⟩ | ⟨g, cap, cur, rfl, hbg, hg, hnc, hcm, hcs, htake⟩
  · exact ⟨Option.none, 0, rfl, ⟨hl, hn, fun hp => absurd hp (by omega)⟩, fun _ => rfl⟩
  · have hlt := (h.2.lt g rfl).2
    refine ⟨some ⟨g, 0, none⟩, cap, rfl, ⟨hl, hn, fun hp => ⟨g, 0, rfl, hlt, fun i x hx => ?_⟩⟩, fun e => by cases e⟩
    have hi : i < n := by rw [← hl]; exact (List.getElem?_eq_some_iff.1 hx).1
    have key : ∀ j, j < 6 → w.cell? ⟨g, 0 + i * 6 + j, none⟩ = x.cells[j]? := fun j hj => by
      have := World.ownsRow.cellAt h.2 (i * 6 + j) (by omega)
      rw [Nat.zero_add, this, flatC_at cs i x hx j hj]
    exact ⟨key 0 (by omega), key 1 (by omega), key 2 (by omega), key 3 (by omega), key 4 (by omega), key 5 (by omega)⟩
theorem wpList_append_crs {w : World} {ops : Array Oper} {rest : List Oper} {o : Oper} {a : Act} {Q : Exit → Act → World → Prop} (hgd : o.guard = none) (s x : Operand)
    (ho : o.op = .call { callee := .builtin .append, args := #[s, x], argTypes := #[44, 44] }) {base : Nat} {v : Value} {n : Nat} {xs : List C6} (hs : a.eval s = v) (hown : OwnC w base v n xs)
    {ad : Option Addr} {m c : Nat} {ys : List C6} (hx : a.eval x = .slice ad m c) (hy : CrAt w ad m ys) (hnone : ad = none → c = 0) (hb : n + m ≤ 1000) (hbase : base ≤ w.heap.size)
    (h : ∀ v' w', OwnC w' base v' (n + m) (xs ++ ys) → Below base w w' → wpList Try.prog ops Q rest (a.put o.dst v') w') : wpList Try.prog ops Q (o :: rest) a w := by
  obtain ⟨inf, hin, hi0, hi1, hi2⟩ := info_parts crInfo
  by_cases hm : m = 0
  · subst hm
    have hz : ys = [] := List.eq_nil_of_length_eq_zero hy.length
    subst hz
    cases ad with
    | none =>
      obtain rfl := hnone rfl
      refine wpList_append_own_none hgd s x 44 ho base 35 inf 6 Try.underlying44 hin v n (flatC xs) hs hown.2 hx ?_
      exact h v w (by simpa using hown) (Below.refl _ _)
    | some ad =>
      refine wpList_append_own _ hgd s x 44 ho base 35 inf _ 6 48 Try.underlying44 hin hi0 hi1 hi2 rfl (by decide) v n (flatC xs) hs hown.2 ad 0 c [] hx (by simp) (by simp) (by simp) (by unfold maxLen; omega) (by omega) hbase ?_
      intro v' w' h1 h2 _
      exact h v' w' ⟨by simpa using hown.1, by simpa using h1⟩ ((Below.refl base w).grown h2 hbase (fun k hk => (World.ownsRow.lt hown.2 k hk).1))
  · obtain ⟨b, off, rfl, hb1, hc⟩ := hy.cells (by omega)
    refine wpList_append_own _ hgd s x 44 ho base 35 inf _ 6 48 Try.underlying44 hin hi0 hi1 hi2 rfl (by decide) v n (flatC xs) hs hown.2 ⟨b, off, none⟩ m c (flatC ys) hx (by rw [flatC_len, hy.length]) ?_ (flatC_one ys) (by unfold maxLen; omega) (by omega) hbase ?_
    · intro j u hj
      rw [Go.WideShapes.add_plain]
      exact flatC_cells ys off hc j u hj
    · intro v' w' h1 h2 _
      refine h v' w' ⟨by rw [List.length_append, hown.1, hy.length], ?_⟩ ((Below.refl base w).grown h2 hbase (fun k hk => (World.ownsRow.lt hown.2 k hk).1))
      rw [flatC_append]; exact h1
end Go.Proofs.Ytpkfaempgibfaaa
