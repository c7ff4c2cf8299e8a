/- Contracts in a row, one by one: slices.Values, cost.needs, cost.Sum. -/
import Derived.Test.YtpkfaempgibfaaaRangeAll
import Derived.Test.YtpkfaempgibfaaaCostW
import Derived.Test.YtpkfaempgibfaaaKit3
namespace Go.Proofs.Ytpkfaempgibfaaa
set_option linter.unusedVariables false
set_option linter.unusedSimpArgs false
open Go.RowKit Go.Shelf
set_option maxRecDepth 100000
set_option maxHeartbeats 4000000
attribute [local go_sem] Oper.semAt_some
/-- a contract's numbers. -/
structure C6 where
  k : Int
  p : Int
  e : Int
  wh : Int
  b : Int
  l : Int
def C6.need (x : C6) : Int := needZ x.k x.p x.e x.wh x.b x.l
/-- contracts in a row. -/
structure CrAt (w : World) (a : Option Addr) (len : Nat) (cs : List C6) : Prop where
  length : cs.length = len
  most : len ≤ 1000
  cells : 0 < len → ∃ b off, a = some ⟨b, off, none⟩ ∧ b < w.heap.size ∧ ∀ i x, cs[i]? = some x → w.cell? ⟨b, off + i * 6, none⟩ = some (.int .i64 x.k) ∧ w.cell? ⟨b, off + i * 6 + 1, none⟩ = some (.int .i64 x.p) ∧ w.cell? ⟨b, off + i * 6 + 2, none⟩ = some (.int .i64 x.e) ∧ w.cell? ⟨b, off + i * 6 + 3, none⟩ = some (.int .i64 x.wh) ∧ w.cell? ⟨b, off + i * 6 + 4, none⟩ = some (.int .i64 x.b) ∧ w.cell? ⟨b, off + i * 6 + 5, none⟩ = some (.int .i64 x.l)
theorem CrAt.below {w w' : World} {a : Option Addr} {len : Nat} {cs : List C6} (h : CrAt w a len cs) (hb : Below w.heap.size w w') : CrAt w' a len cs :=
  ⟨h.length, h.most, fun hp => by
    obtain ⟨b, off, h1, h2, h3⟩ := h.cells hp
    refine ⟨b, off, h1, Nat.lt_of_lt_of_le h2 hb.size, fun i x hx => ?_⟩
    obtain ⟨c0, c1, c2, c3, c4, c5⟩ := h3 i x hx
    exact ⟨cell_keep hb c0, cell_keep hb c1, cell_keep hb c2, cell_keep hb c3, cell_keep hb c4, cell_keep hb c5⟩⟩
theorem grown_of_below {w w' : World} (h : Below w.heap.size w w') : w.grownBy w' none := ⟨h.os, h.tape, h.output, h.size, fun k hk _ => h.block k hk⟩
theorem values_in (F : Fence) (n : Nat) (h : F.fn 42) (hro : F.round = none) (hn : 1 ≤ n) (l Bn n₀ : Nat) (a : Option Addr) (len cap : Nat) (cs : List C6) (hlc : cs.length = len) (hlen : len ≤ 1000) (J Jx : List C6 → World → Prop) (hJb : ∀ pre A C, J pre A → Below A.heap.size A C → J pre C)
    (hY : ∀ pre x W, J pre W → pre.length < len → YieldAt F (n - 1) Try.prog l #[.agg #[.int .i64 x.k, .int .i64 x.p, .int .i64 x.e, .int .i64 x.wh, .int .i64 x.b, .int .i64 x.l]] W fun e W' =>
      (e = .returned (.bool true) ∧ J (pre ++ [x]) W' ∧ Below n₀ W W') ∨ (e = .returned (.bool false) ∧ Jx (pre ++ [x]) W'))
    (W : World) (hn0 : n₀ ≤ W.heap.size) (hBn : W.cell? ⟨Bn, 0, none⟩ = some (.slice a len cap))
    (hcell : 0 < len → ∃ b off, a = some ⟨b, off, none⟩ ∧ b < n₀ ∧ ∀ i x, cs[i]? = some x → W.cell? ⟨b, off + i * 6, none⟩ = some (.int .i64 x.k) ∧ W.cell? ⟨b, off + i * 6 + 1, none⟩ = some (.int .i64 x.p) ∧ W.cell? ⟨b, off + i * 6 + 2, none⟩ = some (.int .i64 x.e) ∧ W.cell? ⟨b, off + i * 6 + 3, none⟩ = some (.int .i64 x.wh) ∧ W.cell? ⟨b, off + i * 6 + 4, none⟩ = some (.int .i64 x.b) ∧ W.cell? ⟨b, off + i * 6 + 5, none⟩ = some (.int .i64 x.l)) (h0 : J [] W) :
    CallsIn F n Try.prog 42 #[.func (.yield l) #[] #[], .pointer (some ⟨Bn, 0, none⟩)] W fun e W' => (∃ v, e = .returned v) ∧
      ((∃ ys, ys = cs ∧ J ys W') ∨ (∃ pre, pre <+: cs ∧ Jx pre W')) := by
  refine callsIn_of_wp Try.func42 rfl h ?_ hro
  simp only [Try.ntmps42, List.size_toArray, List.length_cons, List.length_nil, Nat.reduceAdd, Nat.reduceSub, Array.replicate_succ, Array.replicate_zero, List.push_toArray, List.append_toArray, List.nil_append, List.cons_append]
  have HJB := Lib.hid hJb
  have HC := Lib.hid hcell
  clear hJb hcell
  gi_wp2
  gi_loopw [4, 7] (fun s4 s7 wr => ∃ k : Nat, k ≤ len ∧ s7 = .int .i64 k ∧ J (cs.take k) wr ∧ Below n₀ W wr) (fun s4 s7 wr => len - (intOf s7).toNat)
  case atStart => exact ⟨0, by omega, rfl, by rw [List.take_zero]; exact h0, Below.refl _ _⟩
  case round =>
    obtain ⟨k, hk, rfl, hJ, hb⟩ := hrel
    by_cases hlt : k < len
    · obtain ⟨b, off, rfl, hbn, hc⟩ := HC.out (by omega)
      obtain ⟨x, hx⟩ : ∃ x, cs[k]? = some x := ⟨_, List.getElem?_eq_getElem (by omega)⟩
      obtain ⟨c0, c1, c2, c3, c4, c5⟩ := hc k x hx
      have d0 := (hb.cell (p := ⟨b, off + k * 6, none⟩) hbn).trans c0
      have d1 := (hb.cell (p := ⟨b, off + k * 6 + 1, none⟩) hbn).trans c1
      have d2 := (hb.cell (p := ⟨b, off + k * 6 + 2, none⟩) hbn).trans c2
      have d3 := (hb.cell (p := ⟨b, off + k * 6 + 3, none⟩) hbn).trans c3
      have d4 := (hb.cell (p := ⟨b, off + k * 6 + 4, none⟩) hbn).trans c4
      have d5 := (hb.cell (p := ⟨b, off + k * 6 + 5, none⟩) hbn).trans c5
      have htk : cs.take k ++ [x] = cs.take (k + 1) := by
        rw [List.take_add_one, hx]; rfl
      have HX := Lib.hid hx
      have HT := Lib.hid htk
      have HL := Lib.hid hlc
      clear hc c0 c1 c2 c3 c4 c5 hx htk hlc
      have B1 : Below wr.heap.size wr (wr.alloc (.cells #[.int .i64 x.k, .int .i64 x.p, .int .i64 x.e, .int .i64 x.wh, .int .i64 x.b, .int .i64 x.l] 35)) := (Below.refl _ _).alloc (Nat.le_refl _) _
      obtain ⟨fn, tmps, assign, body, hy, hR⟩ := hY (cs.take k) x _ (HJB.out _ _ _ hJ B1) (by rw [List.length_take]; omega)
      gi_wp2
      refine hR.mono ?_
      rintro e W3 (⟨rfl, hJ3, hk3⟩ | ⟨rfl, hJx3⟩)
      · have hb3 : Below n₀ W W3 := (hb.trans (B1.mono (by have := hb.size; omega))).trans hk3
        gi_wp2
        go_roundw
        case rel => exact ⟨k + 1, by omega, by go_num, by rw [← HT.out]; exact hJ3, hb3⟩
        case measure => simp [intOf]; omega
      · gi_wp2
        refine bodyPost_ret (results_none rfl _ _ _) rfl ?_
        exact ⟨⟨_, rfl⟩, .inr ⟨_, by rw [HT.out]; exact List.take_prefix _ _, hJx3⟩⟩
    · obtain rfl : len = k := by omega
      have hJ' : J cs wr := by rw [← List.take_of_length_le (l := cs) (i := len) (by omega)]; exact hJ
      gi_wp2
      go_end0
      exact ⟨⟨_, rfl⟩, .inl ⟨_, rfl, hJ'⟩⟩
theorem abides_below {β : Type} {B : Nat} {J : β → World → Prop} (h : AbidesFrom B J) (s : β) (A C : World) (hs : J s A) (hb : Below A.heap.size A C) : J s C := h s A C none hs (grown_of_below hb) (fun r e => by cases e)
theorem values_stops (F : Fence) (n : Nat) (h : F.fn 42) (hro : F.round = none) (hn : 1 ≤ n) (Bn n₀ : Nat) (a : Option Addr) (len cap : Nat) (cs : List C6) (hlc : cs.length = len) (hlen : len ≤ 1000) (w : World) (hn0 : n₀ ≤ w.heap.size) (hBn : w.cell? ⟨Bn, 0, none⟩ = some (.slice a len cap))
    (hcell : 0 < len → ∃ b off, a = some ⟨b, off, none⟩ ∧ b < n₀ ∧ ∀ i x, cs[i]? = some x → w.cell? ⟨b, off + i * 6, none⟩ = some (.int .i64 x.k) ∧ w.cell? ⟨b, off + i * 6 + 1, none⟩ = some (.int .i64 x.p) ∧ w.cell? ⟨b, off + i * 6 + 2, none⟩ = some (.int .i64 x.e) ∧ w.cell? ⟨b, off + i * 6 + 3, none⟩ = some (.int .i64 x.wh) ∧ w.cell? ⟨b, off + i * 6 + 4, none⟩ = some (.int .i64 x.b) ∧ w.cell? ⟨b, off + i * 6 + 5, none⟩ = some (.int .i64 x.l)) :
    SeqStopsK F n Try.prog 42 #[.pointer (some ⟨Bn, 0, none⟩)] (fun x : C6 => #[.agg #[.int .i64 x.k, .int .i64 x.p, .int .i64 x.e, .int .i64 x.wh, .int .i64 x.b, .int .i64 x.l]]) (Below n₀) (fun ys => ys = cs) (fun pre => pre <+: cs) len w := fun l J Jx W hW hA _ hY h0 =>
  values_in F n h hro hn l Bn n₀ a len cap cs hlc hlen J Jx (abides_below hA) hY W (Nat.le_trans hn0 hW.size) (cell_keep hW hBn)
    (fun hp => by
      obtain ⟨b, off, h1, h2, h3⟩ := hcell hp
      refine ⟨b, off, h1, h2, fun i x hx => ?_⟩
      obtain ⟨c0, c1, c2, c3, c4, c5⟩ := h3 i x hx
      exact ⟨cell_keep hW c0, cell_keep hW c1, cell_keep hW c2, cell_keep hW c3, cell_keep hW c4, cell_keep hW c5⟩) h0
theorem values_any (a : Option Addr) (len cap : Nat) (w : World) :
    Calls Try.prog 40 #[.slice a len cap] w fun e w' => e = .returned (.func (.func 42) #[] #[.pointer (some ⟨w.heap.size, 0, none⟩)]) ∧ w' = w.alloc (.cells #[.slice a len cap] 44) := by
  go_enter Try.func40, Try.ntmps40
  go_wp2
  go_ret
  exact ⟨rfl, rfl⟩
theorem needs_any (f : Fn) (bound : Array Value) (w : World) :
    Calls Try.prog 39 #[.func f #[] bound] w fun e w' => e = .returned (.func (.func 41) #[] #[.pointer (some ⟨w.heap.size, 0, none⟩)]) ∧ w' = w.alloc (.cells #[.func f #[] bound] 54) := by
  go_enter Try.func39, Try.ntmps39
  go_wp2
  go_ret
  exact ⟨rfl, rfl⟩
section
variable {F : Fence} {n : Nat} {P : Program} {ops : Array Oper} {md : Region.Mode} {Q : Exit → Act → World → Prop}
/-- on, without a panic. -/
def OnlyIn (K : Act → World → Prop) : Exit → Act → World → Prop := fun e a w => e = .normal ∧ K a w
theorem oper_of_listIn {o : Oper} {a : Act} {w : World} {K : Act → World → Prop} (hg : o.guard = none) (h : wpListIn F n P ops (OnlyIn K) [o] a w) : o.wpIn F n P a w K Q := by
  unfold wpListIn at h
  rw [if_pos (by unfold Region.wanted; rw [hg])] at h
  unfold Oper.wpIn at *
  refine ⟨h.1, ?_⟩
  have h := h.2
  generalize (o.semAt F.round a.eval).run P w = r at *
  have lo : ¬ LetsOut (OnlyIn K) := by
    rintro ⟨_, _, h, _⟩; cases h
  cases r with
  | ok x w' =>
    cases x <;> simp only [Oper.uponIn] at h ⊢
    case value v => exact h.2
    case skip => exact h.2
    case defer d => exact h.2
    case enter f args => exact ⟨h.1, CallsIn.mono h.2 (fun e w'' he => by
      cases e with
      | returned v => exact he.2
      | panicked c => cases he.1
      | outgrown => exact (lo he).elim)⟩
    case row row args => exact ⟨h.1, RowsIn.mono h.2 (fun _ _ he => he.2)⟩
    case round => exact ⟨h.1, RoundIn.mono h.2 (fun e w'' he => by
      cases e with
      | returned v => exact he.2
      | panicked c => cases he.1
      | outgrown => exact (lo he).elim)⟩
  | halt x w' =>
    cases x <;> simp only [Oper.uponIn] at h ⊢
    case panic v => cases h.1
theorem anyIn_one {i fuel : Nat} {o : Oper} {listed : Array Bool} {a : Act} {w : World} (hr : Region.ready md ops listed = [i]) (ho : ops[i]? = some o) (hg : o.guard = none)
    (h : wpListIn F n P ops (OnlyIn (wpAnyIn F n P md ops Q fuel (listed.setIfInBounds i true))) [o] a w) : wpAnyIn F n P md ops Q (fuel + 1) listed a w := by
  refine ⟨(fun e => by rw [hr] at e; cases e), fun j hj => ?_⟩
  rw [hr] at hj
  obtain rfl : j = i := by simpa using hj
  unfold wpOpIn
  simp only [ho]
  rw [if_pos (by unfold Region.wanted; rw [hg])]
  exact oper_of_listIn hg h
theorem anyIn_two {i k fuel : Nat} {o o' : Oper} {listed : Array Bool} {a : Act} {w : World} (hr : Region.ready md ops listed = [i, k]) (ho : ops[i]? = some o) (hg : o.guard = none) (ho' : ops[k]? = some o') (hg' : o'.guard = none)
    (h : wpListIn F n P ops (OnlyIn (wpAnyIn F n P md ops Q fuel (listed.setIfInBounds i true))) [o] a w)
    (h' : wpListIn F n P ops (OnlyIn (wpAnyIn F n P md ops Q fuel (listed.setIfInBounds k true))) [o'] a w) : wpAnyIn F n P md ops Q (fuel + 1) listed a w := by
  refine ⟨(fun e => by rw [hr] at e; cases e), fun j hj => ?_⟩
  rw [hr] at hj
  simp only [List.mem_cons, List.not_mem_nil, or_false] at hj
  rcases hj with rfl | rfl
  · unfold wpOpIn
    simp only [ho]
    rw [if_pos (by unfold Region.wanted; rw [hg])]
    exact oper_of_listIn hg h
  · unfold wpOpIn
    simp only [ho']
    rw [if_pos (by unfold Region.wanted; rw [hg'])]
    exact oper_of_listIn hg' h'
end
/-- a contract's cells in a block of its own. -/
def BoxC (w : World) (q : Nat) (x : C6) : Prop := w.cell? ⟨q, 0, none⟩ = some (.int .i64 x.k) ∧ w.cell? ⟨q, 1, none⟩ = some (.int .i64 x.p) ∧ w.cell? ⟨q, 2, none⟩ = some (.int .i64 x.e) ∧ w.cell? ⟨q, 3, none⟩ = some (.int .i64 x.wh) ∧ w.cell? ⟨q, 4, none⟩ = some (.int .i64 x.b) ∧ w.cell? ⟨q, 5, none⟩ = some (.int .i64 x.l)
theorem need_in (l n : Nat) (k p e wh b l' : Int) (w : World) : CallsIn (Fence.wide.inRound l) n Try.prog 27 #[.agg #[.int .i64 k, .int .i64 p, .int .i64 e, .int .i64 wh, .int .i64 b, .int .i64 l']] w fun en w' => en = .returned (.int .i64 (needZ k p e wh b l')) ∧ Below w.heap.size w w' :=
  (callsIn_wide (n := n)).2 (need_any k p e wh b l' w)
theorem round_wide {l l' n m : Nat} {f : FuncId} {tmps : Array Value} {assign body : Code} {w : World} {R : Ending → World → Prop} (h : RoundIn Fence.wide n Try.prog l f tmps assign body w R) : RoundIn (Fence.wide.inRound l') m Try.prog l f tmps assign body w R :=
  ⟨h.1, fun c cs _ => h.2 c cs (room_wide _)⟩
theorem needs_all (n : Nat) (h6 : 6 ≤ n) (Bn Bv n₀ : Nat) (a : Option Addr) (len cap : Nat) (cs : List C6) (hlc : cs.length = len) (hlen : len ≤ 1000) (w : World) (hn0 : n₀ ≤ w.heap.size) (hBn : w.cell? ⟨Bn, 0, none⟩ = some (.func (.func 42) #[] #[.pointer (some ⟨Bv, 0, none⟩)])) (hBv : w.cell? ⟨Bv, 0, none⟩ = some (.slice a len cap))
    (hcell : 0 < len → ∃ b off, a = some ⟨b, off, none⟩ ∧ b < n₀ ∧ ∀ i x, cs[i]? = some x → w.cell? ⟨b, off + i * 6, none⟩ = some (.int .i64 x.k) ∧ w.cell? ⟨b, off + i * 6 + 1, none⟩ = some (.int .i64 x.p) ∧ w.cell? ⟨b, off + i * 6 + 2, none⟩ = some (.int .i64 x.e) ∧ w.cell? ⟨b, off + i * 6 + 3, none⟩ = some (.int .i64 x.wh) ∧ w.cell? ⟨b, off + i * 6 + 4, none⟩ = some (.int .i64 x.b) ∧ w.cell? ⟨b, off + i * 6 + 5, none⟩ = some (.int .i64 x.l)) :
    SeqAll Fence.wide n Try.prog 41 #[.pointer (some ⟨Bn, 0, none⟩)] (fun z : Int => #[.int .i64 z]) n₀ len (cs.map C6.need) w := by
  intro l J W hW hJ hY h0
  refine callsIn_of_wp_marks Try.func41 rfl trivial ?_ rfl
  refine wpIn_wide.2 ?_
  simp only [Try.ntmps41, List.size_toArray, List.length_cons, List.length_nil, Nat.reduceAdd, Nat.reduceSub, Array.replicate_succ, Array.replicate_zero, List.push_toArray, List.append_toArray, List.nil_append, List.cons_append]
  have HJ := Lib.hid hJ
  have HY := Lib.hid hY
  have HC := Lib.hid hcell
  clear hJ hY hcell
  have kn := cell_keep hW hBn
  have hbnl : Bn < W.heap.size := World.block_lt_of_cell? _ _ kn
  go_wp2
  obtain ⟨V, hV⟩ : ∃ V, V = W.alloc (.cells #[.func (.yield l) #[] #[]] 25) := ⟨_, rfl⟩
  have bV : Below W.heap.size W V := by rw [hV]; exact (Below.refl _ _).alloc (Nat.le_refl _) _
  have cV : V.cell? ⟨W.heap.size, 0, none⟩ = some (.func (.yield l) #[] #[]) := by rw [hV]; exact cell_top rfl rfl
  have sV : V.heap.size = W.heap.size + 1 := by rw [hV]; simp
  rw [← hV]
  clear hV
  have h0V : J [] V := HJ.out _ _ _ h0 (Ext.of_below bV)
  have wV : Below w.heap.size w V := hW.trans (bV.mono hW.size)
  refine (wpIn_wide (n := n)).1 ?_
  refine wpIn_rangeFunc_ownH rfl (by omega) (gf := 42) (lb := #[.pointer (some ⟨Bv, 0, none⟩)]) rfl trivial (enters_of Try.func42 (by kernel_rfl) rfl)
    (values_stops Fence.wide (n - 1) trivial rfl (by omega) Bv n₀ a len cap cs hlc hlen w hn0 hBv HC.out)
    belowK_t (belowK_b (by have := wV.size; omega)) wV (fun _ => rfl)
    (fun pre Z => J (pre.map C6.need) Z ∧ Z.cell? ⟨W.heap.size, 0, none⟩ = some (.func (.yield l) #[] #[]))
    (fun _ _ _ => False)
    (fun pre A C row hs hg hr => ⟨HJ.out _ _ _ hs.1 (Ext.of_grown hg (fun r e => ⟨by have := (hr r e).1; omega, (hr r e).2⟩)), cell_kept hs.2 hg (fun r e => (hr r e).2)⟩)
    (fun _ _ _ _ _ hs _ _ => hs)
    ⟨h0V, cV⟩
    (fun x a' Z => ∃ q, a' = { tmps := #[.func (.yield l) #[] #[], .pointer (some ⟨Bn, 0, none⟩), .pointer (some ⟨W.heap.size, 0, none⟩), .pointer (some ⟨q, 0, none⟩), .func (.func 42) #[] #[.pointer (some ⟨Bv, 0, none⟩)], .agg #[.int .i64 x.k, .int .i64 x.p, .int .i64 x.e, .int .i64 x.wh, .int .i64 x.b, .int .i64 x.l], undef, undef, undef, undef, undef], defers := [] } ∧ BoxC Z q x)
    (fun x a' _ A C row hs hg hr => by
      obtain ⟨q, he, c0, c1, c2, c3, c4, c5⟩ := hs
      exact ⟨q, he, cell_kept c0 hg (fun r e => (hr r e).2), cell_kept c1 hg (fun r e => (hr r e).2), cell_kept c2 hg (fun r e => (hr r e).2), cell_kept c3 hg (fun r e => (hr r e).2), cell_kept c4 hg (fun r e => (hr r e).2), cell_kept c5 hg (fun r e => (hr r e).2)⟩)
    ?assign ?body ?done ?stop
  case assign =>
    intro l' pre x Z K hi hK
    have b1 : Below Z.heap.size Z (Z.alloc (.cells #[.int .i64 x.k, .int .i64 x.p, .int .i64 x.e, .int .i64 x.wh, .int .i64 x.b, .int .i64 x.l] 35)) := (Below.refl _ _).alloc (Nat.le_refl _) _
    have HK := Lib.hid hK
    have HI := Lib.hid hi
    clear hK hi
    gi_wp2
    have hzl : W.heap.size < Z.heap.size := World.block_lt_of_cell? _ _ HI.out.2
    have hwl := hW.size
    refine HK.out _ _ ⟨b1.size, fun k o _ hk _ => (b1.block k (Array.getElem?_eq_some_iff.1 hk).1).trans hk⟩ (b1.mono (by omega)) ⟨HJ.out _ _ _ HI.out.1 (Ext.of_below b1), cell_keep b1 HI.out.2⟩ ⟨Z.heap.size, rfl, cell_top rfl rfl, cell_top rfl rfl, cell_top rfl rfl, cell_top rfl rfl, cell_top rfl rfl, cell_top rfl rfl⟩
  case body =>
    rintro l' pre x a' Z hl' ⟨r, hrec⟩ ⟨hj, hy⟩ ⟨q, rfl, c0, c1, c2, c3, c4, c5⟩ hlen'
    have hml : (pre.map C6.need).length < len := by rw [List.length_map]; exact hlen'
    have hmap : (pre ++ [x]).map C6.need = pre.map C6.need ++ [x.need] := by rw [List.map_append]; rfl
    have hzl : W.heap.size < Z.heap.size := World.block_lt_of_cell? _ _ hy
    have hql : q < Z.heap.size := World.block_lt_of_cell? _ _ c0
    have hwl := hW.size
    have bd : Below Z.heap.size Z Z.drew := (Below.refl _ _).drew
    have HM := Lib.hid hmap
    have hf27 : Fence.wide.fn 27 := trivial
    have hn2 : 1 ≤ n - 1 - 1 := by omega
    clear hmap hrec
    gi_wp2
    refine wpIn_region_any (by kernel_rfl) ?_
    show wpAnyIn _ _ _ _ _ _ _ _ _ Z.drew
    refine anyIn_two (i := 0) (k := 1) (by kernel_rfl) rfl rfl rfl rfl ?_ ?_
    · gi_wp2
      refine ⟨rfl, ?_⟩
      (refine anyIn_one (i := 1) (by kernel_rfl) rfl rfl ?_); gi_wp2; (refine ⟨rfl, ?_⟩)
      refine anyIn_one (i := 2) (by kernel_rfl) rfl rfl ?_
      gi_wp2_with (gi_at_call 27; (with_reducible refine (need_in _ _ x.k x.p x.e x.wh x.b x.l _).mono ?_); rintro e wn ⟨rfl, hb_wn⟩); (refine ⟨rfl, ?_⟩); (have bn : Below Z.heap.size Z wn := bd.trans (hb_wn.mono (by simp))); (have cy := cell_keep bn hy); (have hjn := HJ.out _ _ _ hj (Ext.of_below bn))
      (obtain ⟨fn, tmps, assign, body, hyl, hR⟩ := HY.out (pre.map C6.need) x.need _ hjn hml); (have HN : C6.need x = needZ x.k x.p x.e x.wh x.b x.l := rfl); (rw [HN] at hyl); (refine anyIn_one (i := 3) (by kernel_rfl) rfl rfl ?_); gi_wp2; (refine RoundIn.mono (round_wide hR) ?_); (rintro e W3 ⟨rfl, hJ3, hF3⟩); gi_wp2; (refine ⟨rfl, ?_⟩); (refine anyIn_one (i := 4) (by kernel_rfl) rfl rfl ?_); gi_wp2; (refine ⟨rfl, ?_⟩); (refine ⟨by kernel_rfl, ?_⟩); gi_wp2; (refine ⟨⟨Nat.le_trans bn.size hF3.1.size, fun k o hB hk _ => hF3.kept (by omega) ((bn.block k (Array.getElem?_eq_some_iff.1 hk).1).trans hk)⟩, (bn.mono (by omega)).trans hF3.1, by rw [HM.out]; exact hJ3, hF3.cell (Nat.le_refl _) cy⟩)
    · gi_wp2
      refine ⟨rfl, ?_⟩
      refine anyIn_two (i := 0) (k := 2) (by kernel_rfl) rfl rfl rfl rfl ?_ ?_
      · gi_wp2
        refine ⟨rfl, ?_⟩
        refine anyIn_one (i := 2) (by kernel_rfl) rfl rfl ?_
        gi_wp2_with (gi_at_call 27; (with_reducible refine (need_in _ _ x.k x.p x.e x.wh x.b x.l _).mono ?_); rintro e wn ⟨rfl, hb_wn⟩); (refine ⟨rfl, ?_⟩); (have bn : Below Z.heap.size Z wn := bd.trans (hb_wn.mono (by simp))); (have cy := cell_keep bn hy); (have hjn := HJ.out _ _ _ hj (Ext.of_below bn))
        (obtain ⟨fn, tmps, assign, body, hyl, hR⟩ := HY.out (pre.map C6.need) x.need _ hjn hml); (have HN : C6.need x = needZ x.k x.p x.e x.wh x.b x.l := rfl); (rw [HN] at hyl); (refine anyIn_one (i := 3) (by kernel_rfl) rfl rfl ?_); gi_wp2; (refine RoundIn.mono (round_wide hR) ?_); (rintro e W3 ⟨rfl, hJ3, hF3⟩); gi_wp2; (refine ⟨rfl, ?_⟩); (refine anyIn_one (i := 4) (by kernel_rfl) rfl rfl ?_); gi_wp2; (refine ⟨rfl, ?_⟩); (refine ⟨by kernel_rfl, ?_⟩); gi_wp2; (refine ⟨⟨Nat.le_trans bn.size hF3.1.size, fun k o hB hk _ => hF3.kept (by omega) ((bn.block k (Array.getElem?_eq_some_iff.1 hk).1).trans hk)⟩, (bn.mono (by omega)).trans hF3.1, by rw [HM.out]; exact hJ3, hF3.cell (Nat.le_refl _) cy⟩)
      · gi_wp2_with (gi_at_call 27; (with_reducible refine (need_in _ _ x.k x.p x.e x.wh x.b x.l _).mono ?_); rintro e wn ⟨rfl, hb_wn⟩); (refine ⟨rfl, ?_⟩); (have bn : Below Z.heap.size Z wn := bd.trans (hb_wn.mono (by simp))); (have cy := cell_keep bn hy); (have hjn := HJ.out _ _ _ hj (Ext.of_below bn))
        (refine anyIn_one (i := 0) (by kernel_rfl) rfl rfl ?_); gi_wp2; (refine ⟨rfl, ?_⟩)
        (obtain ⟨fn, tmps, assign, body, hyl, hR⟩ := HY.out (pre.map C6.need) x.need _ hjn hml); (have HN : C6.need x = needZ x.k x.p x.e x.wh x.b x.l := rfl); (rw [HN] at hyl); (refine anyIn_one (i := 3) (by kernel_rfl) rfl rfl ?_); gi_wp2; (refine RoundIn.mono (round_wide hR) ?_); (rintro e W3 ⟨rfl, hJ3, hF3⟩); gi_wp2; (refine ⟨rfl, ?_⟩); (refine anyIn_one (i := 4) (by kernel_rfl) rfl rfl ?_); gi_wp2; (refine ⟨rfl, ?_⟩); (refine ⟨by kernel_rfl, ?_⟩); gi_wp2; (refine ⟨⟨Nat.le_trans bn.size hF3.1.size, fun k o hB hk _ => hF3.kept (by omega) ((bn.block k (Array.getElem?_eq_some_iff.1 hk).1).trans hk)⟩, (bn.mono (by omega)).trans hF3.1, by rw [HM.out]; exact hJ3, hF3.cell (Nat.le_refl _) cy⟩)
  case done =>
    rintro D ys Z hD rfl ⟨hj, hy⟩ hK
    go_wp2
    refine ⟨by simp, .inl ⟨_, _, rfl, run_takeDeferred hK, ?_⟩⟩
    refine ⟨_, results_none rfl _ _ _, ⟨_, rfl⟩, HJ.out _ _ _ hj (Ext.putObj _ (by have := bV.size; omega) hK rfl)⟩
  case stop =>
    rintro D c pre Z _ _ hf _
    exact hf.elim
theorem Ext.cell {B b o : Nat} {A C : World} {v : Value} (h : Ext B A C) (hc : A.cell? ⟨b, o, none⟩ = some v) : C.cell? ⟨b, o, none⟩ = some v ∧ C.frozen? ⟨b, o, none⟩ = A.frozen? ⟨b, o, none⟩ := by
  obtain ⟨ob, ho, hcl⟩ := cells_of_cell hc
  have hk := (h.keep b ob ho (.inr hcl)).trans ho.symm
  exact ⟨(World.cell?_of_block hk).trans hc, World.frozen?_of_block hk⟩
theorem Ext.below {B n : Nat} {w A C : World} (h : Ext B A C) (hb : Below n w A) (hn : n ≤ w.heap.size) (hB : n ≤ B) : Below n w C :=
  ⟨h.os.trans hb.os, h.tape.trans hb.tape, h.output.trans hb.output, Nat.le_trans hb.size h.size, fun k hk => by
    have hlt : k < A.heap.size := by have := hb.size; omega
    have hA : A.heap[k]? = some A.heap[k] := Array.getElem?_eq_getElem hlt
    rw [h.keep k _ hA (.inl (by omega)), ← hb.block k hk, hA]⟩
/-- the sum of what many need. -/
def sumZ (cs : List C6) : Int := (cs.map C6.need).foldl (fun s x => wrap64 (s + x)) 0
theorem sum_any (a : Option Addr) (len cap : Nat) (cs : List C6) (w : World) (hA : CrAt w a len cs) :
    Calls Try.prog 34 #[.slice a len cap] w fun e w' => e = .returned (.int .i64 (sumZ cs)) ∧ Below w.heap.size w w' := by
  refine (callsIn_wide (n := 12)).1 ?_
  refine callsIn_of_wp_marks Try.func34 rfl trivial ?_ rfl
  refine wpIn_wide.2 ?_
  simp only [Try.ntmps34, List.size_toArray, List.length_cons, List.length_nil, Nat.reduceAdd, Nat.reduceSub, Array.replicate_succ, Array.replicate_zero, List.push_toArray, List.append_toArray, List.nil_append, List.cons_append]
  go_wp2_with (first | (go_at_call 40; refine (values_any _ _ _ _).mono ?_; rintro e w1 ⟨rfl, rfl⟩) | (go_at_call 39; refine (needs_any _ _ _).mono ?_; rintro e w2 ⟨rfl, rfl⟩))
  have hB0 : Below w.heap.size w (((w.alloc (.cells #[.int .i64 0] 3)).alloc (.cells #[.slice a len cap] 44)).alloc (.cells #[.func (.func 42) #[] #[.pointer (some ⟨w.heap.size + 1, 0, none⟩)]] 54)) := (((Below.refl _ _).alloc (Nat.le_refl _) _).alloc (by simp) _).alloc (by simp; omega) _
  obtain ⟨V, hV⟩ : ∃ V, V = ((w.alloc (.cells #[.int .i64 0] 3)).alloc (.cells #[.slice a len cap] 44)).alloc (.cells #[.func (.func 42) #[] #[.pointer (some ⟨w.heap.size + 1, 0, none⟩)]] 54) := ⟨_, rfl⟩
  have c0 : V.cell? ⟨w.heap.size, 0, none⟩ = some (.int .i64 0) := by rw [hV]; simp [go_sem]
  have z0 : V.frozen? ⟨w.heap.size, 0, none⟩ = false := by rw [hV]; simp [go_sem]
  have c1 : V.cell? ⟨w.heap.size + 1, 0, none⟩ = some (.slice a len cap) := by rw [hV]; simp [go_sem]
  have c2 : V.cell? ⟨w.heap.size + 1 + 1, 0, none⟩ = some (.func (.func 42) #[] #[.pointer (some ⟨w.heap.size + 1, 0, none⟩)]) := by rw [hV]; simp [go_sem]
  have sV : w.heap.size < V.heap.size := by rw [hV]; simp; omega
  rw [← hV] at hB0 ⊢
  clear hV
  have hAV := hA.below hB0
  obtain ⟨f, hf⟩ : ∃ f : List Int → Int, f = fun pre => pre.foldl (fun s x => wrap64 (s + x)) 0 := ⟨_, rfl⟩
  have hf0 : f [] = 0 := by rw [hf]; rfl
  have hf1 : ∀ pre x, f (pre ++ [x]) = wrap64 (f pre + x) := fun pre x => by rw [hf]; simp [List.foldl_append]
  have hf2 : f (cs.map C6.need) = sumZ cs := by rw [hf]; rfl
  have HF1 := Lib.hid hf1
  have HF2 := Lib.hid hf2
  clear hf hf1 hf2
  have hlo : ∀ b off, a = some ⟨b, off, none⟩ → 0 < len → b < w.heap.size := fun b off e hp => by
    obtain ⟨b', off', e', hb', _⟩ := hA.cells hp
    rw [e] at e'; injection e' with e'; injection e' with e1 e2; omega
  refine (wpIn_wide (n := 11)).1 ?_
  refine wpIn_rangeFunc_all rfl (by omega) (gf := 41) (lb := #[.pointer (some ⟨w.heap.size + 1 + 1, 0, none⟩)]) rfl trivial (enters_of Try.func41 (by kernel_rfl) rfl)
    (needs_all (11 - 1) (by omega) (w.heap.size + 1 + 1) (w.heap.size + 1) w.heap.size a len cap cs hA.length hA.most V (by omega) c2 c1 (fun hp => by
      obtain ⟨b, off, e1, e2, e3⟩ := hAV.cells hp
      exact ⟨b, off, e1, hlo b off e1 hp, e3⟩))
    (Below.refl _ _) (Nat.le_of_lt sV) (fun _ => rfl)
    (fun pre Z => (Z.cell? ⟨w.heap.size, 0, none⟩ = some (.int .i64 (f pre)) ∧ Z.frozen? ⟨w.heap.size, 0, none⟩ = false) ∧ Below w.heap.size w Z)
    (fun pre A C hs hx => ⟨⟨(hx.cell hs.1.1).1, (hx.cell hs.1.1).2.trans hs.1.2⟩, hx.below hs.2 (Nat.le_refl _) (Nat.le_of_lt sV)⟩)
    ⟨⟨by rw [hf0]; exact c0, z0⟩, hB0⟩
    (fun x => { tmps := #[.slice a len cap, undef, .int .i64 0, .pointer (some ⟨w.heap.size, 0, none⟩), .int .i64 x, .slice a len cap, .func (.func 42) #[] #[.pointer (some ⟨w.heap.size + 1, 0, none⟩)], .func (.func 41) #[] #[.pointer (some ⟨w.heap.size + 1 + 1, 0, none⟩)], .int .i64 x, undef, undef, undef, undef], defers := [] })
    ?assign ?body ?done
  case assign =>
    intro l x W K hK
    gi_wp2
    exact hK
  case body =>
    rintro l pre x W ⟨⟨h0, h1⟩, hB⟩ _
    gi_wp2
    have hg := grownBy_setCell' W w.heap.size (.int .i64 (wrap64 (f pre + x)))
    refine ⟨⟨(Below.refl w.heap.size W).setCell (p := ⟨w.heap.size, 0, none⟩) (Nat.le_refl _) _, fun k hk hl => hg.block k hl (fun e => by injection e with e; omega)⟩, (HF1.out _ _).symm, hB.setCell (p := ⟨w.heap.size, 0, none⟩) (Nat.le_refl _) _⟩
  case done =>
    rintro D W hD ⟨⟨h0, h1⟩, hB⟩ hK
    go_wp2
    refine ⟨by simp, .inl ⟨_, _, rfl, run_takeDeferred hK, ?_⟩⟩
    refine ⟨_, results_tmp rfl _ _ _, ?_, ?_⟩
    · exact ret_int HF2.out
    · exact (Ext.putObj _ hD hK rfl).below hB (Nat.le_refl _) (Nat.le_of_lt sV)
/-- it is the sum. -/
def sumI (cs : List C6) : Int := (cs.map C6.need).sum
theorem sum_bd : ∀ (xs : List Int), (∀ x ∈ xs, 0 ≤ x ∧ x ≤ 1048576) → 0 ≤ xs.sum ∧ xs.sum ≤ 1048576 * xs.length
  | [], _ => by simp
  | x :: xs, h => by
    have h1 := h x (by simp)
    have h2 := sum_bd xs (fun y hy => h y (by simp [hy]))
    simp only [List.sum_cons, List.length_cons]
    push_cast
    omega
theorem fold_wrap : ∀ (xs : List Int) (s : Int), (∀ x ∈ xs, 0 ≤ x ∧ x ≤ 1048576) → 0 ≤ s → s + 1048576 * xs.length ≤ 9223372036854775807 → xs.foldl (fun s x => wrap64 (s + x)) s = s + xs.sum
  | [], s, _, _, _ => by simp
  | x :: xs, s, h, h0, h1 => by
    have h2 := h x (by simp)
    simp only [List.length_cons] at h1
    push_cast at h1
    have hw : wrap64 (s + x) = s + x := IntWalk.wrap64_in _ (by omega)
    simp only [List.foldl_cons, List.sum_cons]
    rw [hw, fold_wrap xs (s + x) (fun y hy => h y (by simp [hy])) (by omega) (by omega)]
    omega
theorem need_bd (x : C6) : 0 ≤ x.need ∧ x.need ≤ 1048576 := needZ_le _ _ _ _ _ _
theorem needs_bd (cs : List C6) : ∀ x ∈ cs.map C6.need, 0 ≤ x ∧ x ≤ 1048576 := fun x hx => by
  obtain ⟨c, _, rfl⟩ := List.mem_map.1 hx
  exact need_bd c
theorem sumZ_eq (cs : List C6) (h : cs.length ≤ 1000) : sumZ cs = sumI cs := by
  unfold sumZ sumI
  rw [fold_wrap _ 0 (needs_bd cs) (by omega) (by rw [List.length_map]; omega)]
  omega
theorem sumI_bd (cs : List C6) : 0 ≤ sumI cs ∧ sumI cs ≤ 1048576 * cs.length := by
  have := sum_bd _ (needs_bd cs)
  rwa [List.length_map] at this
end Go.Proofs.Ytpkfaempgibfaaa
