/- Numbers in two rows of a call's own; trunklinelaw07.within. -/
import Derived.Test.YtndmmhljphlhjaaPolU
import Derived.Test.YtndmmhljphlhjaaInts
import Derived.Maps.AppendAt
namespace Go.Proofs.Ytndmmhljphlhjaa
set_option linter.unusedVariables false
set_option linter.unusedSimpArgs false
open Go.RowKit
set_option maxRecDepth 100000
set_option maxHeartbeats 4000000
theorem wpList_append_int_at {w : World} {ops : Array Oper} {rest : List Oper} {o : Oper} {a : Act} {Q : Exit → Act → World → Prop} (hgd : o.guard = none) (s x : Operand)
    (ho : o.op = .call { callee := .builtin .append, args := #[s, x], argTypes := #[47, 47] }) {base : Nat} {v : Value} {n : Nat} {xs : List Int} (hs : a.eval s = v) (hown : OwnI w base v n xs)
    {b : Nat} {z : Int} (hx : a.eval x = .slice (some ⟨b, 0, none⟩) 1 1) (hc : w.cell? ⟨b, 0, none⟩ = some (.int .i64 z)) (hb : n + 1 ≤ 17592186044416) (hbase : base ≤ w.heap.size)
    (h : ∀ v' w', OwnI w' base v' (n + 1) (xs ++ [z]) → w.grownBy w' v.ownBlock → Below base w w' → (v'.ownBlock = v.ownBlock ∨ v'.ownBlock = some w.heap.size) → wpList Try.prog ops Q rest (a.put o.dst v') w') : wpList Try.prog ops Q (o :: rest) a w := by
  obtain ⟨inf, hin, hi0, hi1, hi2⟩ := info_parts i64Info
  refine wpList_append_own_at _ hgd s x 47 ho base 3 inf _ 1 8 Try.underlying47 hin hi0 hi1 hi2 rfl (by decide) v n (xs.map (Value.int .i64)) hs hown ⟨b, 0, none⟩ 1 1 [.int .i64 z] hx rfl ?_ (by simp [Value.oneCell']) (by unfold maxLen; omega) (by omega) hbase ?_
  · intro j u hj
    match j, hj with
    | 0, hj =>
      simp at hj
      rw [← hj]
      simpa [Go.WideShapes.add_plain] using hc
    | j + 1, hj => simp at hj
  · intro v' w' h1 h2 _ h4
    refine h v' w' ?_ h2 ((Below.refl base w).grown h2 hbase (fun k hk => (World.ownsRow.lt hown k hk).1)) h4
    unfold OwnI
    rw [List.map_append]; exact h1
/-- two rows that don't meet. -/
def TwoI (base : Nat) (u v : Value) (us zs : List Int) (w : World) : Prop := OwnI w base u us.length us ∧ OwnI w base v zs.length zs ∧ ∀ k, u.ownBlock = some k → v.ownBlock ≠ some k
theorem TwoI.nil (w : World) (base : Nat) : TwoI base (.slice none 0 0) (.slice none 0 0) [] [] w := ⟨OwnI.nil w base, OwnI.nil w base, fun k h => by cases h⟩
theorem OwnI.other {w w' : World} {base n : Nat} {v : Value} {zs : List Int} (h : OwnI w base v n zs) (hk : ∀ b, base ≤ b → b < w.heap.size → w'.heap[b]? = w.heap[b]?) : OwnI w' base v n zs := by
  have hl := fun k hk => World.ownsRow.lt h k hk
  refine ⟨h.1, ?_⟩
  rcases h.2 with hn | ⟨g, cap, cur, rfl, hb, hgg, rest⟩
  · exact .inl hn
  · have hg := hl g rfl
    exact .inr ⟨g, cap, cur, rfl, hb, (hk g hg.1 hg.2).trans hgg, rest⟩
theorem TwoI.below {base : Nat} {u v : Value} {us zs : List Int} {w w' : World} (h : TwoI base u v us zs w) (hb : Below w.heap.size w w') : TwoI base u v us zs w' := ⟨h.1.below hb, h.2.1.below hb, h.2.2⟩
theorem TwoI.chg {s : Nat → Prop} {base : Nat} {u v : Value} {us zs : List Int} {w w' : World} (h : TwoI base u v us zs w) (hc : ChgL s w w') (hs : ∀ k, s k → k < base) : TwoI base u v us zs w' :=
  ⟨h.1.other (fun b h1 h2 => hc.block b h2 (fun e => by have := hs b e; omega)), h.2.1.other (fun b h1 h2 => hc.block b h2 (fun e => by have := hs b e; omega)), h.2.2⟩
theorem kept_own {w w' : World} {base n : Nat} {u v : Value} {zs : List Int} (h : OwnI w base v n zs) (hg : w.grownBy w' u.ownBlock) (hd : ∀ k, u.ownBlock = some k → v.ownBlock ≠ some k) : OwnI w' base v n zs := by
  refine World.ownsRow.kept h hg ?_
  cases e : v.ownBlock with
  | none => exact .inl rfl
  | some k => exact .inr (fun e' => hd k e'.symm e)
theorem TwoI.app1 {base : Nat} {u u' v : Value} {us zs : List Int} {z : Int} {w w' : World} (h : TwoI base u v us zs w) (h1 : OwnI w' base u' (us.length + 1) (us ++ [z])) (hg : w.grownBy w' u.ownBlock) (ha : u'.ownBlock = u.ownBlock ∨ u'.ownBlock = some w.heap.size) : TwoI base u' v (us ++ [z]) zs w' := by
  refine ⟨by rw [List.length_append]; exact h1, kept_own h.2.1 hg h.2.2, fun k hk hv => ?_⟩
  rcases ha with e | e
  · exact h.2.2 k (e ▸ hk) hv
  · rw [e] at hk
    injection hk with hk
    have := (World.ownsRow.lt h.2.1 k hv).2
    omega
theorem TwoI.app2 {base : Nat} {u v v' : Value} {us zs : List Int} {z : Int} {w w' : World} (h : TwoI base u v us zs w) (h1 : OwnI w' base v' (zs.length + 1) (zs ++ [z])) (hg : w.grownBy w' v.ownBlock) (ha : v'.ownBlock = v.ownBlock ∨ v'.ownBlock = some w.heap.size) : TwoI base u v' us (zs ++ [z]) w' := by
  refine ⟨kept_own h.1 hg (fun k hk hu => h.2.2 k hu hk), by rw [List.length_append]; exact h1, fun k hk hv => ?_⟩
  rcases ha with e | e
  · exact h.2.2 k hk (e ▸ hv)
  · rw [e] at hv
    injection hv with hv
    have := (World.ownsRow.lt h.1 k hk).2
    omega
theorem windows_any (a : Option Addr) (n cap : Nat) (L : List Int) (s e : Int) (w : World) (hA : IntsAt w a n L) (hn : n ≤ 300) (s0 : 1 ≤ s) (s1 : s ≤ 1099511627776) (e0 : 0 ≤ e) (e1 : e ≤ 2199023255552) (hL : ∀ x ∈ L, 0 ≤ x ∧ x ≤ 1300000000000) (hW : Win L s e) :
    Calls Try.prog 31 #[.slice a n cap, .int .i64 s, .int .i64 e] w fun en w' => en = .returned (.bool true) ∧ Below w.heap.size w w' := by
  have hlen := hA.length
  have hq : ∀ (i k : Nat) (x y : Int), i ≤ k → L[i]? = some x → L[k]? = some y → (k : Int) - (i : Int) ≤ Int.tdiv (y - x + e) s := fun i k x y h1 h2 h3 => win_quo hW s0 h1 h2 h3
  have HQ := Lib.hid hq
  have HL := Lib.hid hlen
  have hs0 : (s == 0) = false := by simp; omega
  clear hq hW hlen
  go_enter Try.func31, Try.ntmps31
  go_wp2
  go_loopw [7, 8, 11] (fun s7 s8 s11 wr => ∃ i : Nat, i ≤ n ∧ s11 = .int .i64 i ∧ Below w.heap.size w wr) (fun s7 s8 s11 wr => n - (intOf s11).toNat)
  case atStart => exact ⟨0, by omega, rfl, Below.refl _ _⟩
  case round =>
    obtain ⟨i, hi, rfl, hb⟩ := hrel
    by_cases hlt : i < n
    · obtain ⟨x, hx⟩ : ∃ x, L[i]? = some x := ⟨_, List.getElem?_eq_getElem (by rw [HL.out]; exact hlt)⟩
      have bx := hL x (List.mem_of_getElem? hx)
      obtain ⟨g, off, rfl, hg, hcl⟩ := hA.cells (by omega)
      have f0 := hcl i hlt
      rw [hx] at f0
      simp only [Option.getD_some] at f0
      have HX := Lib.hid hx
      have HCL := Lib.hid hcl
      clear hx hcl
      obtain ⟨wx, rfl⟩ : ∃ wx, wx = wr := ⟨_, rfl⟩
      go_wp2
      go_loopw [8] (fun s8 wr => ∃ k : Nat, i ≤ k ∧ k ≤ n ∧ s8 = .int .i64 k ∧ Below w.heap.size w wr) (fun s8 wr => n - (intOf s8).toNat)
      case atStart => exact ⟨i, by omega, by omega, rfl, hb⟩
      case round =>
        obtain ⟨k, hk0, hk, rfl, hb'⟩ := hrel
        by_cases hlt' : k < n
        · obtain ⟨y, hy⟩ : ∃ y, L[k]? = some y := ⟨_, List.getElem?_eq_getElem (by rw [HL.out]; exact hlt')⟩
          have by' := hL y (List.mem_of_getElem? hy)
          have f1 := HCL.out k hlt'
          rw [hy] at f1
          simp only [Option.getD_some] at f1
          have g0 := (hb'.cell (p := ⟨g, off + i, none⟩) hg).trans f0
          have g1 := (hb'.cell (p := ⟨g, off + k, none⟩) hg).trans f1
          have hqq := HQ.out i k x y hk0 HX.out hy
          have dq : decide (Int.tdiv (y - x + e) s < (k : Int) - (i : Int)) = false := decide_eq_false (by omega)
          clear hy hqq
          go_wp2
          go_quiet (fail)
          go_wp2
          go_roundw
          case rel => exact ⟨k + 1, by omega, by omega, by go_num, below_drewN hb' _⟩
          case measure => simp [intOf]; omega
        · obtain rfl : n = k := by omega
          go_wp2
          go_roundw
          case rel => exact ⟨i + 1, by omega, by go_num, hb'⟩
          case measure => simp [intOf]; omega
    · obtain rfl : n = i := by omega
      go_wp2
      go_ret
      exact ⟨rfl, hb⟩
end Go.Proofs.Ytndmmhljphlhjaa
