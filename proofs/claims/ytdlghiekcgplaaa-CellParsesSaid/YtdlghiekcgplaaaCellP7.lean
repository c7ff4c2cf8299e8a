/- What is parsed, and what its reference parses, as one: the steps of the law CellParses. -/
import Derived.Test.YtdlghiekcgplaaaCellQ
import Derived.Test.YtdlghiekcgplaaaRefF
import Derived.Laws.CopyOwn
namespace Go.Proofs.Ytdlghiekcgplaaa
set_option linter.unusedVariables false
set_option linter.unusedSimpArgs false
open Go.RowKit
set_option maxRecDepth 100000
theorem splice_step {L : List Value} {o : Nat} {v : Value} {r : List Value} (h : o < L.length) : splice (L.set o v) (o + 1) r = splice L o (v :: r) := by
  unfold splice
  rw [List.take_set, List.take_succ_eq_append_getElem h, List.set_append_right _ _ (by simp; omega), List.drop_set_of_lt (by omega)]
  have e : o - (L.take o).length = 0 := by simp; omega
  rw [e]
  simp only [List.set_cons_zero, List.length_cons, List.append_assoc, List.cons_append, List.nil_append]
  rw [show o + 1 + r.length = o + (r.length + 1) by omega]
theorem heap_setCells {t : TypeId} {b : Nat} : ∀ (vs : List Value) (o : Nat) {w : World} {cs : Array Value}, w.heap[b]? = some (.cells cs t (0, 0)) → o + vs.length ≤ cs.size → (w.setCells b o vs).heap[b]? = some (.cells (splice cs.toList o vs).toArray t (0, 0))
  | [], o, w, cs, h, _ => by
    rw [World.setCells, h]
    simp [splice]
  | v :: r, o, w, cs, h, hl => by
    simp only [List.length_cons] at hl
    rw [World.setCells, heap_setCells r (o + 1) (heap_setCell_same w b o cs t v h) (by simp; omega)]
    have e : (cs.setIfInBounds o v).toList = cs.toList.set o v := by simp
    rw [e, splice_step (by simp; omega)]
theorem splice_all {L vs : List Value} (h : vs.length = L.length) : splice L 0 vs = vs := by
  unfold splice
  rw [List.take_zero, List.nil_append, Nat.zero_add, List.drop_of_length_le (by omega), List.append_nil]
section
variable {ops : Array Oper} {rest : List Oper} {a : Act} {w : World} {Q : Exit → Act → World → Prop} {x y : Operand} {ty : TypeId} {pos : String} {after : Array Edge}
/-- a fresh cell, filled; its block is known whole. -/
theorem wpList_fill46H (X : Array Value) {C : Array Value} {E : TypeId} (h1 : a.eval x = .pointer (some ⟨w.heap.size, 0, none⟩) ∧ a.eval y = .agg X ∧ X.size = 53 ∧ X.all (·.oneCell') = true ∧ C.size = 53)
    (h : ∀ W2 : World, w.heap.size < W2.heap.size → Below w.heap.size w W2 → Hid (W2.heap[w.heap.size]? = some (.cells X E (0, 0))) → wpList Try.prog ops Q rest (a.put none undef) W2) : wpList Try.prog ops Q (⟨none, .store 46 x y, ty, pos, after, none⟩ :: rest) a (w.alloc (.cells C E)) := by
  obtain ⟨hx, hy, hl, h1, hC⟩ := h1
  have hf := fill_new (w := w) (E := E) hC hl rfl
  have hh := heap_setCells (b := w.heap.size) X.toList 0 (heap_alloc_new w (.cells C E)) (by simp; omega)
  rw [splice_all (by simp; omega)] at hh
  exact wpList_store_mid rfl 46 x y rfl _ 0 X hx hy (by rw [hl]; exact there_new rfl hC) (by rw [siz46, hl]) h1 (h _ hf.1 hf.2.1 (Lib.hid (by simpa using hh)))
theorem wpList_fill23 (X : Array Value) {C : Array Value} {E : TypeId} (h1 : a.eval x = .pointer (some ⟨w.heap.size, 0, none⟩) ∧ a.eval y = .agg X ∧ X.size = 5 ∧ X.all (·.oneCell') = true ∧ C.size = 5)
    (h : ∀ W2 : World, w.heap.size < W2.heap.size → Below w.heap.size w W2 → W2.rangeAt w.heap.size 0 X.toList → wpList Try.prog ops Q rest (a.put none undef) W2) : wpList Try.prog ops Q (⟨none, .store 23 x y, ty, pos, after, none⟩ :: rest) a (w.alloc (.cells C E)) := by
  obtain ⟨hx, hy, hl, h1, hC⟩ := h1
  have hf := fill_new (w := w) (E := E) hC hl rfl
  exact wpList_store_mid rfl 23 x y rfl _ 0 X hx hy (by rw [hl]; exact there_new rfl hC) (by rw [siz23, hl]) h1 (h _ hf.1 hf.2.1 hf.2.2)
theorem wpList_copyPay {dst : Option Nat} (g : Nat) (s : Option Addr) (m cc : Nat) (cp : List Int) (V : Array Value) (w0 : World) (h1 : a.eval x = .slice (some ⟨g, 5, none⟩) 48 48 ∧ a.eval y = .slice s m cc ∧ V.size = 53 ∧ Hid (w.heap[g]? = some (.cells V 46 (0, 0))) ∧ BytesAt w s m cp ∧ m ≤ 48 ∧ Below w0.heap.size w0 w ∧ w0.heap.size ≤ g)
    (h : ∀ w' n, Hid (w'.heap[g]? = some (.cells (splice V.toList 5 (u8s cp)).toArray 46 (0, 0))) → Below w0.heap.size w0 w' → wpList Try.prog ops Q rest (a.put dst (goInt n)) w') :
    wpList Try.prog ops Q (⟨dst, .call { callee := .builtin .copy, args := #[x, y], argTypes := #[27, 27] }, ty, pos, after, none⟩ :: rest) a w := by
  obtain ⟨hx, hy, hV, hg, hB, hm, hb, hBg⟩ := h1
  have hl : (u8s cp).length = m := by rw [List.length_map, hB.length]
  refine wpList_copy_splice rfl x y _ _ rfl 5 Try.underlying27 (by kernel_rfl) _ _ _ _ _ _ hx hy g 5 V.toList 46 (by simpa using hg.out) (u8s cp) (by rw [hl]; exact (Nat.min_eq_left hm).symm) (fun hp => ⟨rfl, ?_⟩) (by rw [hl]; simp; omega) (fun v hv => by obtain ⟨z, _, rfl⟩ := List.mem_map.1 hv; rfl) _ w0 hb hBg (fun w' h1 h2 => h w' _ h1 h2)
  obtain ⟨b, off, rfl, _, _⟩ := hB.cells (by omega)
  refine ⟨_, rfl, fun j v hv => ?_⟩
  have := hB.range j v hv
  rwa [Go.WideShapes.add_plain]
end
theorem range_heap {w : World} {b : Nat} {cs : List Value} {t : TypeId} (h : w.heap[b]? = some (.cells cs.toArray t (0, 0))) : w.rangeAt b 0 cs := fun j v hv => by
  rw [Nat.zero_add, cell_of_row w b j _ _ _ h]
  simpa using hv
/-- what is parsed, by both: the same. -/
structure Parses (nni : Bool) (n : Nat) (zs : List Int) (c c' : Bool) (fr dr E G P C T L : Int) (pay cp : List Int) (X : Array Value) : Prop where
  one : ∀ (p : Nat) (r d : Int) (a : Option Addr) (cap : Nat) (w : World), RecAt w p r d c → 0 ≤ r → r ≤ 1000000 → 0 ≤ d → d ≤ 1000000 → BytesAt w a n zs → n ≤ cap → cap ≤ 9223372036854775807 → (0 < n → ∀ b off, a = some ⟨b, off, none⟩ → b ≠ p) →
    Calls Try.prog 34 #[.slice a n cap, .pointer (some ⟨p, 0, none⟩), .bool nni] w fun e w' => e = .returned (.tuple #[.agg X, .int .i64 E]) ∧ RecAt w' p (r + fr) (d + dr) c' ∧ Chg p w w'
  two : ∀ (p : Nat) (r d : Int) (a : Option Addr) (cap : Nat) (w : World), RefAt w p c r d → 0 ≤ r → r ≤ 1000000 → 0 ≤ d → d ≤ 1000000 → BytesAt w a n zs → (a = none → cap = 0) → n ≤ cap → cap ≤ 9223372036854775807 → (0 < n → ∀ b off, a = some ⟨b, off, none⟩ → b ≠ p) →
    Calls Try.prog 37 #[.slice a n cap, .pointer (some ⟨p, 0, none⟩), .bool nni] w fun e w' => (∃ g m cc, e = .returned (.tuple #[.agg #[.int .i64 G, .int .i64 P, .int .i64 C, .int .i64 T, .int .i64 L], .slice g m cc, .int .i64 E]) ∧ BytesAt w' g m cp) ∧ RefAt w' p c' (r + fr) (d + dr) ∧ Chg p w w'
  cell : X = (cellV G P C T L pay).toArray
  pay48 : pay.length = 48
  payB : allB pay
  copied : cp = [] ∧ pay = List.replicate 48 0 ∨ cp = pay
  fr0 : 0 ≤ fr ∧ fr ≤ 1
  dr0 : 0 ≤ dr ∧ dr ≤ 1
  wf : (Lit.int .i64 G).wf = true ∧ (Lit.int .i64 P).wf = true ∧ (Lit.int .i64 C).wf = true ∧ (Lit.int .i64 T).wf = true ∧ (Lit.int .i64 L).wf = true
theorem zeros_B : allB (List.replicate 48 0) := z48_B
theorem wf_zero : (Lit.int .i64 0).wf = true := by decide
theorem wf_small {x : Int} (h0 : 0 ≤ x) (h1 : x < 65536) : (Lit.int .i64 x).wf = true := by
  have a : IntKind.i64.min = -9223372036854775808 := rfl
  have b : IntKind.i64.max = 9223372036854775807 := rfl
  simp [Lit.wf]; omega
theorem word_bd4 {zs : List Int} (hb : allB zs) : 0 ≤ uW zs ∧ uW zs < 4294967296 := by
  have hx := fun k => byte_B hb k
  have h0 := hx 0; have h1 := hx 1; have h2 := hx 2; have h3 := hx 3
  unfold isB at h0 h1 h2 h3
  unfold uW at4 word4
  omega
theorem u_wf (nni : Bool) {zs : List Int} (hb : allB zs) : (Lit.int .i64 (uG nni zs)).wf = true ∧ (Lit.int .i64 (uP nni zs)).wf = true ∧ (Lit.int .i64 (uC zs)).wf = true ∧ (Lit.int .i64 (uT zs)).wf = true ∧ (Lit.int .i64 (uL zs)).wf = true := by
  have h := word_bd4 hb
  unfold uG uP uC uT uL
  split
  · refine ⟨wf_small ?_ ?_, wf_small ?_ ?_, wf_small (by omega) (by omega), wf_small (by omega) (by omega), wf_small (by omega) (by omega)⟩ <;> (first | unfold gfcW | unfold vpiW) <;> split <;> omega
  · exact ⟨wf_zero, wf_zero, wf_zero, wf_zero, wf_zero⟩
theorem parses_all (nni : Bool) (n : Nat) (zs : List Int) (c : Bool) (hl : zs.length = n) (hb : allB zs) : ∃ c' fr dr E G P C T L pay cp X, Parses nni n zs c c' fr dr E G P C T L pay cp X := by
  rcases Nat.lt_trichotomy n 53 with h | h | h
  · refine ⟨c, 0, 0, 2, 0, 0, 0, 0, 0, List.replicate 48 0, [], noCell.toArray, ?_, ?_, rfl, rfl, zeros_B, .inl ⟨rfl, rfl⟩, by omega, by omega, wf_zero, wf_zero, wf_zero, wf_zero, wf_zero⟩
    · intro p r d a cap w hR _ _ _ _ _ _ _ _
      refine (cellParse_short a n cap _ nni w h).mono fun e w' ⟨he, hB⟩ => ⟨he, ?_, Chg.of hB⟩
      rw [Int.add_zero, Int.add_zero]; exact hR.below hB
    · intro p r d a cap w hR _ _ _ _ _ _ _ _ _
      refine (refParse_short a n cap _ nni w h).mono fun e w' ⟨he, hB⟩ => ⟨⟨none, 0, 0, he, BytesAt.nil _⟩, ?_, Chg.of hB⟩
      rw [Int.add_zero, Int.add_zero]; exact hR.below hB
  · subst h
    have h5 : allB (zs.take 5) := fun z hz => hb z (List.mem_of_mem_take hz)
    cases hd : drops c (zs.take 5) with
    | true =>
      refine ⟨synd (zs.take 5) != 0, oneIf (fixes c (zs.take 5)), oneIf true, 4, 0, 0, 0, 0, 0, List.replicate 48 0, [], noCell.toArray, ?_, ?_, rfl, rfl, zeros_B, .inl ⟨rfl, rfl⟩, oneIf_bd _, oneIf_bd _, wf_zero, wf_zero, wf_zero, wf_zero, wf_zero⟩
      · intro p r d a cap w hR r0 r1 d0 d1 hz c0 c1 hn
        have := cellParse_drop p r d c a cap zs nni w hR r0 r1 d0 d1 hz c0 c1 (hn (by omega)) hd
        rwa [hd] at this
      · intro p r d a cap w hR r0 r1 d0 d1 hz na c0 c1 hn
        have := refParse_drop p r d c a cap zs nni w hR r0 r1 d0 d1 hz na c0 c1 (hn (by omega)) hd
        rw [hd] at this
        exact this.mono fun e w' ⟨he, h1, h2⟩ => ⟨⟨none, 0, 0, he, BytesAt.nil _⟩, h1, h2⟩
    | false =>
      refine ⟨synd (zs.take 5) != 0, oneIf (fixes c (zs.take 5)), oneIf false, 0, uG nni (takes c (zs.take 5)), uP nni (takes c (zs.take 5)), uC (takes c (zs.take 5)), uT (takes c (zs.take 5)), uL (takes c (zs.take 5)), zs.drop 5, zs.drop 5, _, ?_, ?_, rfl, by simp [hl], fun z hz => hb z (List.mem_of_mem_drop hz), .inr rfl, oneIf_bd _, oneIf_bd _, u_wf nni (takes_B h5)⟩
      · intro p r d a cap w hR r0 r1 d0 d1 hz c0 c1 hn
        have := cellParse_take p r d c a cap zs nni w hR r0 r1 d0 d1 hz c0 c1 (hn (by omega)) hd
        rwa [hd] at this
      · intro p r d a cap w hR r0 r1 d0 d1 hz na c0 c1 hn
        have := refParse_take p r d c a cap zs nni w hR r0 r1 d0 d1 hz na c0 c1 (hn (by omega)) hd
        rw [hd] at this
        exact this.mono fun e w' ⟨⟨g, cc, he, hB⟩, h1, h2⟩ => ⟨⟨g, 48, cc, he, hB⟩, h1, h2⟩
  · refine ⟨c, 0, 0, 3, 0, 0, 0, 0, 0, List.replicate 48 0, [], noCell.toArray, ?_, ?_, rfl, rfl, zeros_B, .inl ⟨rfl, rfl⟩, by omega, by omega, wf_zero, wf_zero, wf_zero, wf_zero, wf_zero⟩
    · intro p r d a cap w hR _ _ _ _ _ _ _ _
      refine (cellParse_long a n cap _ nni w h).mono fun e w' ⟨he, hB⟩ => ⟨he, ?_, Chg.of hB⟩
      rw [Int.add_zero, Int.add_zero]; exact hR.below hB
    · intro p r d a cap w hR _ _ _ _ _ _ _ _ _
      refine (refParse_long a n cap _ nni w h).mono fun e w' ⟨he, hB⟩ => ⟨⟨none, 0, 0, he, BytesAt.nil _⟩, ?_, Chg.of hB⟩
      rw [Int.add_zero, Int.add_zero]; exact hR.below hB
end Go.Proofs.Ytdlghiekcgplaaa
