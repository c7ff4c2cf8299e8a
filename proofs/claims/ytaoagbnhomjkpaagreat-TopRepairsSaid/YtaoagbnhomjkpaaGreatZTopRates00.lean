import Derived.Test.YtaoagbnhomjkpaaGreatProg
import Derived.WalkKit
import Derived.ProofKit
import Derived.Below
import Derived.RowKit3
import Derived.Deep.LoopGhost
import Derived.Deep.QuietTactic
import Derived.BigQuiet
import Derived.WalkMore
import Derived.Lib.Hide
import Derived.Deep.Light
import Derived.WalkSmall
import Derived.Deep.Quiet
import Derived.KernelRfl
import Derived.WalkLawsBesides
import Derived.RangeFuncNested
import Derived.RangeFuncBound
import Derived.RangeFuncCalls
import Derived.RangeFuncLeaves
import Derived.RangeFuncFrom
import Derived.Shelf.Abstract
import Derived.Shelf.RegionOpen
import Derived.OwnWalkIn
import Derived.TacticsInMore
import Derived.LoopNIn
import Derived.LoopIn
/- Small words that all of this seat's walks use. -/
namespace Go.Proofs.YtaoagbnhomjkpaaGreat
open Go.RowKit
theorem ret_int {k : IntKind} {a b : Int} (h : a = b) : Ending.returned (.int k a) = .returned (.int k b) := by rw [h]
theorem ret_bool {a b : Bool} (h : a = b) : Ending.returned (.bool a) = .returned (.bool b) := by rw [h]
theorem int_div_pow (n k : Nat) : (n : Int) / 2 ^ k = ((n / 2 ^ k : Nat) : Int) := by push_cast; rfl
theorem wf_u8 {x : Int} (h : (Lit.int .u8 x).wf = true) : 0 ≤ x ∧ x < 256 := by
  have h2 : IntKind.u8.min ≤ x ∧ x ≤ IntKind.u8.max := by simpa [Lit.wf] using h
  have a : IntKind.u8.min = 0 := rfl
  have b : IntKind.u8.max = 255 := rfl
  omega
theorem wf_u16 {x : Int} (h : (Lit.int .u16 x).wf = true) : 0 ≤ x ∧ x < 65536 := by
  have h2 : IntKind.u16.min ≤ x ∧ x ≤ IntKind.u16.max := by simpa [Lit.wf] using h
  have a : IntKind.u16.min = 0 := rfl
  have b : IntKind.u16.max = 65535 := rfl
  omega
theorem wf_u32 {x : Int} (h : (Lit.int .u32 x).wf = true) : 0 ≤ x ∧ x < 4294967296 := by
  have h2 : IntKind.u32.min ≤ x ∧ x ≤ IntKind.u32.max := by simpa [Lit.wf] using h
  have a : IntKind.u32.min = 0 := rfl
  have b : IntKind.u32.max = 4294967295 := rfl
  omega
theorem wf_uint {x : Int} (h : (Lit.int .u64 x).wf = true) : 0 ≤ x ∧ x < 18446744073709551616 := by
  have h2 : IntKind.u64.min ≤ x ∧ x ≤ IntKind.u64.max := by simpa [Lit.wf] using h
  have a : IntKind.u64.min = 0 := rfl
  have b : IntKind.u64.max = 18446744073709551615 := rfl
  omega
theorem wf_i64 {x : Int} (h : (Lit.int .i64 x).wf = true) : -9223372036854775808 ≤ x ∧ x ≤ 9223372036854775807 := by
  have h2 : IntKind.i64.min ≤ x ∧ x ≤ IntKind.i64.max := by simpa [Lit.wf] using h
  have a : IntKind.i64.min = -9223372036854775808 := rfl
  have b : IntKind.i64.max = 9223372036854775807 := rfl
  omega
end Go.Proofs.YtaoagbnhomjkpaaGreat

/- More small words for this seat's walks: worlds behind a call that made memory. -/
namespace Go.Proofs.YtaoagbnhomjkpaaGreat
set_option linter.unusedVariables false
set_option linter.unusedSimpArgs false
open Go.RowKit
theorem bcell {W w1 : World} (hb : Below W.heap.size W w1) : (∀ b o, b < W.heap.size → w1.cell? ⟨b, o, none⟩ = W.cell? ⟨b, o, none⟩) ∧ (∀ b o, b < W.heap.size → w1.frozen? ⟨b, o, none⟩ = W.frozen? ⟨b, o, none⟩) :=
  ⟨fun b o h => hb.cell (p := ⟨b, o, none⟩) h, fun b o h => hb.frozen (p := ⟨b, o, none⟩) h⟩
/-- behind a box, and a call that made memory. -/
theorem below_box {w w' : World} {o : Obj} (hb : Below (w.alloc o).heap.size (w.alloc o) w') : Below w.heap.size w w' :=
  ((Below.refl _ _).alloc (Nat.le_refl _) o).trans (hb.mono (by simp))
theorem below_box2 {w w' : World} {o o' : Obj} (hb : Below ((w.alloc o).alloc o').heap.size ((w.alloc o).alloc o') w') : Below w.heap.size w w' :=
  below_box (below_box hb)
theorem below_then {w w1 w2 : World} (h1 : Below w.heap.size w w1) (h2 : Below w1.heap.size w1 w2) : Below w.heap.size w w2 := h1.trans (h2.mono h1.size)
theorem below_same {w w' : World} (h : w = w') : Below w.heap.size w w' := h ▸ Below.refl _ _
theorem quiet_same {P : Program} {f : FuncId} {args : Array Value} {w : World} {n : Nat} {v : Value}
    (h : Calls P f args (w.drewN n) fun e w' => e = .returned v ∧ w.drewN n = w') : Calls P f args (w.drewN n) fun e w'' => e = .returned v ∧ ∃ m, w'' = w.drewN m :=
  h.mono fun _ _ ⟨he, hm⟩ => ⟨he, n, hm.symm⟩
/-- a world behind calls that made memory, and turned nothing that was there. -/
def Aft (W : World) : Type := Subtype fun w' : World => Below W.heap.size W w'
def Aft.w {W : World} (g : Aft W) : World := g.1
instance (W : World) : Nonempty (Aft W) := ⟨⟨W, Below.refl _ _⟩⟩
theorem Aft.below {W : World} (g : Aft W) : Below W.heap.size W g.w := g.2
theorem Aft.cell {W : World} (g : Aft W) (b o : Nat) (h : b < W.heap.size) : g.w.cell? ⟨b, o, none⟩ = W.cell? ⟨b, o, none⟩ := g.below.cell (p := ⟨b, o, none⟩) h
attribute [go_sem] Aft.cell
/-- a region that draws its order, whose operations read, and whose callees make memory alone: one walk, in the order of the text. -/
theorem wp_region_hold {P : Program} {id : Nat} {Q : Exit → Act → World → Prop} {a : Act} {w : World} {l : List Oper} (hm : P.follows .mixedOrders = true) (hB : Region.lexB .any l.toArray = true)
    (h : wpQuiet P l.toArray (fun w' => ∃ g : Aft w, w' = g.w) (fun a' => ∀ w', (∃ g : Aft w, w' = g.w) → Q .normal a' w') l a) : (Code.region id l.toArray true).wp P Q a w :=
  wp_region_quiet (C := fun w' => ∃ g : Aft w, w' = g.w) hm hB ⟨⟨{ w with drawn := w.drawn + 1 }, (Below.refl _ _).drew⟩, rfl⟩ (by simpa using h)
theorem aft_of {P : Program} {f : FuncId} {args : Array Value} {W : World} {g : Aft W} {v : Value}
    (h : Calls P f args g.w fun e w' => e = .returned v ∧ Below g.w.heap.size g.w w') : Calls P f args g.w fun e w'' => e = .returned v ∧ ∃ g' : Aft W, w'' = g'.w :=
  h.mono fun _ w'' ⟨he, hb⟩ => ⟨he, ⟨w'', below_then g.below hb⟩, rfl⟩
theorem aft_same {P : Program} {f : FuncId} {args : Array Value} {W : World} {g : Aft W} {v : Value}
    (h : Calls P f args g.w fun e w' => e = .returned v ∧ g.w = w') : Calls P f args g.w fun e w'' => e = .returned v ∧ ∃ g' : Aft W, w'' = g'.w :=
  h.mono fun _ w'' ⟨he, hb⟩ => ⟨he, g, hb.symm⟩
/-- a row that the call has just made. -/
theorem own_made {w : World} {base : Nat} {E : TypeId} {size n : Nat} (cs : Array Value) (h : base ≤ w.heap.size) (hn : n ≤ maxLen) (hs : cs.size = n * size) :
    (w.alloc (.cells cs E)).ownsRow base E size (.slice (some ⟨w.heap.size, 0, none⟩) n n) n cs.toList :=
  ⟨by simp [hs], Or.inr ⟨w.heap.size, n, cs, rfl, h, by show (w.heap.push _)[w.heap.size]? = _; simp, Nat.le_refl _, hn, hs, List.take_of_length_le (by simp [hs])⟩⟩
theorem cells_made {w : World} {E : TypeId} (cs : Array Value) (hm : cs.size ≤ maxLen) : ∀ j u, cs.toList[j]? = some u → (w.alloc (.cells cs E)).cell? ((⟨w.heap.size, 0, none⟩ : Addr).add j) = some u :=
  (own_made (w := w) (base := 0) (E := E) (size := 1) (n := cs.size) cs (Nat.zero_le _) hm (by omega)).cells rfl
theorem cells_made_at {w : World} {E : TypeId} (cs : Array Value) (hm : cs.size ≤ maxLen) {b : Nat} (hb : b = w.heap.size) : ∀ j u, cs.toList[j]? = some u → (w.alloc (.cells cs E)).cell? ((⟨b, 0, none⟩ : Addr).add j) = some u := by
  subst hb; exact cells_made cs hm
theorem own_made_at {w : World} {base : Nat} {E : TypeId} {size n : Nat} (cs : Array Value) (h : base ≤ w.heap.size) (hn : n ≤ maxLen) (hs : cs.size = n * size) {b : Nat} (hb : b = w.heap.size) :
    (w.alloc (.cells cs E)).ownsRow base E size (.slice (some ⟨b, 0, none⟩) n n) n cs.toList := by
  subst hb; exact own_made cs h hn hs
theorem own_below {w w' : World} {base : Nat} {E : TypeId} {size n : Nat} {v : Value} {xs : List Value} (h : w.ownsRow base E size v n xs) (hb : Below w.heap.size w w') : w'.ownsRow base E size v n xs := by
  refine ⟨h.1, ?_⟩
  rcases h.2 with h2 | ⟨g, cap, cur, hv, hg, hh, r⟩
  · exact Or.inl h2
  · exact Or.inr ⟨g, cap, cur, hv, hg, by rw [hb.block g (by rw [Array.getElem?_eq_some_iff] at hh; exact hh.1)]; exact hh, r⟩
theorem below_grown {w w' : World} {row : Option Nat} (hg : w.grownBy w' row) (hr : ∀ k, row = some k → w.heap.size ≤ k) : Below w.heap.size w w' :=
  (Below.refl _ _).grown hg (Nat.le_refl _) hr
end Go.Proofs.YtaoagbnhomjkpaaGreat

/- Small words on cells, in a world that is written out. -/
namespace Go.Proofs.YtaoagbnhomjkpaaGreat
set_option linter.unusedVariables false
open Go.RowKit
variable {w : World} {o : Obj} {b c i j n : Nat} {u v x : Value} {cs : Array Value} {E : TypeId}
theorem cell_top (hb : b = w.heap.size) (hv : cs[j]? = some v) : (w.alloc (.cells cs E)).cell? ⟨b, j, none⟩ = some v := by
  subst hb; rw [World.cell?_alloc_new]; exact hv
theorem cell_under (h : b < w.heap.size) (hv : w.cell? ⟨b, j, none⟩ = some v) : (w.alloc o).cell? ⟨b, j, none⟩ = some v := by
  rw [World.cell?_alloc_lt _ _ _ h]; exact hv
theorem cell_set (hv : w.cell? ⟨b, j, none⟩ = some u) : (w.setCell ⟨b, j, none⟩ v).cell? ⟨b, j, none⟩ = some v := World.cell?_setCell_same _ _ _ hv
theorem cell_off (h : i ≠ j) (hv : w.cell? ⟨b, j, none⟩ = some u) : (w.setCell ⟨b, i, none⟩ v).cell? ⟨b, j, none⟩ = some u := by
  rw [World.cell?_setCell_other _ _ _ _ (fun e => h (by injection e))]; exact hv
theorem cell_beside (h : c ≠ b) (hv : w.cell? ⟨b, j, none⟩ = some u) : (w.setCell ⟨c, i, none⟩ v).cell? ⟨b, j, none⟩ = some u := by
  rw [World.cell?_setCell_other _ _ _ _ (fun e => h (by injection e))]; exact hv
theorem cell_drew (hv : w.cell? ⟨b, j, none⟩ = some u) : w.drew.cell? ⟨b, j, none⟩ = some u := hv
theorem cell_drewN (hv : w.cell? ⟨b, j, none⟩ = some u) : (w.drewN n).cell? ⟨b, j, none⟩ = some u := hv
theorem cell_keep {w' : World} (hb : Below w.heap.size w w') (hv : w.cell? ⟨b, j, none⟩ = some u) : w'.cell? ⟨b, j, none⟩ = some u :=
  (hb.cell (p := ⟨b, j, none⟩) (World.block_lt_of_cell? _ _ hv)).trans hv
theorem size_drewN : (w.drewN n).heap.size = w.heap.size := rfl
end Go.Proofs.YtaoagbnhomjkpaaGreat

/- A world in which one block alone may have turned. -/
namespace Go.Proofs.YtaoagbnhomjkpaaGreat
set_option linter.unusedVariables false
set_option linter.unusedSimpArgs false
open Go.RowKit
/-- of what was there, block b alone may have turned. -/
structure Chg (b : Nat) (w w' : World) : Prop where
  os : w'.os = w.os
  tape : w'.tape = w.tape
  output : w'.output = w.output
  size : w.heap.size ≤ w'.heap.size
  block : ∀ k, k < w.heap.size → k ≠ b → w'.heap[k]? = w.heap[k]?
theorem Chg.refl (b : Nat) (w : World) : Chg b w w := ⟨rfl, rfl, rfl, Nat.le_refl _, fun _ _ _ => rfl⟩
theorem Chg.trans {b : Nat} {w w1 w2 : World} (h : Chg b w w1) (k : Chg b w1 w2) : Chg b w w2 :=
  ⟨k.os.trans h.os, k.tape.trans h.tape, k.output.trans h.output, Nat.le_trans h.size k.size, fun j hj hn => (k.block j (Nat.lt_of_lt_of_le hj h.size) hn).trans (h.block j hj hn)⟩
theorem Chg.of {b : Nat} {w w' : World} (h : Below w.heap.size w w') : Chg b w w' := ⟨h.os, h.tape, h.output, h.size, fun k hk _ => h.block k hk⟩
theorem Chg.setCell {b : Nat} {w w' : World} (h : Chg b w w') (o : Nat) (v : Value) : Chg b w (w'.setCell ⟨b, o, none⟩ v) :=
  ⟨h.os, h.tape, h.output, by simpa using h.size, fun k hk hn => (Below.heap_setCell w' ⟨b, o, none⟩ v k hn).trans (h.block k hk hn)⟩
theorem Chg.setNew {b c : Nat} {w w' : World} (h : Chg b w w') (hc : w.heap.size ≤ c) (o : Nat) (v : Value) : Chg b w (w'.setCell ⟨c, o, none⟩ v) :=
  ⟨h.os, h.tape, h.output, by simpa using h.size, fun k hk hn => (Below.heap_setCell w' ⟨c, o, none⟩ v k (show k ≠ c by omega)).trans (h.block k hk hn)⟩
theorem Chg.alloc {b : Nat} {w w' : World} (h : Chg b w w') (o : Obj) : Chg b w (w'.alloc o) :=
  h.trans (Chg.of ((Below.refl _ _).alloc (Nat.le_refl _) o))
theorem Chg.drewN {b : Nat} {w w' : World} (h : Chg b w w') (n : Nat) : Chg b w (w'.drewN n) := ⟨h.os, h.tape, h.output, h.size, h.block⟩
theorem Chg.drew {b : Nat} {w w' : World} (h : Chg b w w') : Chg b w w'.drew := ⟨h.os, h.tape, h.output, h.size, h.block⟩
theorem Chg.then {b : Nat} {w w1 w2 : World} (h : Chg b w w1) (k : Below w1.heap.size w1 w2) : Chg b w w2 := h.trans (Chg.of k)
theorem Chg.below {b B : Nat} {w w' : World} (h : Chg b w w') (hb : B ≤ b) (hB : B ≤ w.heap.size) : Below B w w' :=
  ⟨h.os, h.tape, h.output, h.size, fun k hk => h.block k (by omega) (by omega)⟩
theorem Chg.cell {b : Nat} {w w' : World} (h : Chg b w w') {k o : Nat} {v : Value} (hk : k ≠ b) (hv : w.cell? ⟨k, o, none⟩ = some v) : w'.cell? ⟨k, o, none⟩ = some v :=
  (World.cell?_of_block (w := w) (h.block k (World.block_lt_of_cell? w _ hv) hk)).trans hv
end Go.Proofs.YtaoagbnhomjkpaaGreat

/- The walks of the layer 'sums': bits, one behind the other; a register behind bytes. -/
namespace Go.Proofs.YtaoagbnhomjkpaaGreat
set_option linter.unusedVariables false
set_option linter.unusedSimpArgs false
open Go.RowKit Go.Shelf
set_option maxRecDepth 100000
set_option maxHeartbeats 4000000
attribute [local go_sem] Oper.semAt_some
def bitAt (z : Int) (j : Nat) : Bool := z / 2 ^ (7 - j) % 2 == 1
def bit8 (z : Int) : List Bool := (List.range 8).map (bitAt z)
def bitsL (zs : List Int) : List Bool := zs.flatMap bit8
theorem bits_in (F : Fence) (n : Nat) (h : F.fn 128) (hro : F.round = none) (a : Option Addr) (len cap : Nat) (w : World) :
    CallsIn F n Tryz.prog 128 #[.slice a len cap] w fun e w' => e = .returned (.func (.func 144) #[] #[.pointer (some ⟨w.heap.size, 0, none⟩)]) ∧ w' = w.alloc (.cells #[.slice a len cap] 36) := by
  refine callsIn_of_wp Tryz.func128 rfl h ?_ hro
  simp only [Tryz.ntmps128, List.size_toArray, List.length_cons, List.length_nil, Nat.reduceAdd, Nat.reduceSub, Array.replicate_succ, Array.replicate_zero, List.push_toArray, List.append_toArray, List.nil_append, List.cons_append]
  gi_wp2
  go_ret
  exact ⟨rfl, rfl⟩
/-- what has come when k bytes are over, and j bits of the next one. -/
def upto (zs : List Int) (k j : Nat) : List Bool := bitsL (zs.take k) ++ (bit8 (zs[k]?.getD 0)).take j
theorem bit8_len (z : Int) : (bit8 z).length = 8 := by simp [bit8]
theorem bitsL_len (zs : List Int) : (bitsL zs).length = 8 * zs.length := by
  induction zs with
  | nil => rfl
  | cons z zs ih =>
    have e : bitsL (z :: zs) = bit8 z ++ bitsL zs := rfl
    rw [e, List.length_append, ih, bit8_len, List.length_cons]; omega
theorem upto_len (zs : List Int) (k j : Nat) (hk : k ≤ zs.length) (hj : j ≤ 8) : (upto zs k j).length = 8 * k + j := by
  unfold upto
  rw [List.length_append, bitsL_len, List.length_take, List.length_take, bit8_len]; omega
theorem upto_snoc (zs : List Int) (k j : Nat) (hj : j < 8) : upto zs k j ++ [bitAt (zs[k]?.getD 0) j] = upto zs k (j + 1) := by
  unfold upto
  rw [List.append_assoc]
  congr 1
  rw [List.take_succ_eq_append_getElem (by rw [bit8_len]; omega)]
  congr 1
  simp [bit8]
theorem upto_next (zs : List Int) (k : Nat) (hk : k < zs.length) : upto zs k 8 = upto zs (k + 1) 0 := by
  unfold upto
  have e1 : (bit8 (zs[k]?.getD 0)).take 8 = bit8 (zs[k]?.getD 0) := List.take_of_length_le (by rw [bit8_len]; omega)
  rw [e1, List.take_zero, List.append_nil, List.take_succ_eq_append_getElem hk]
  unfold bitsL
  rw [List.flatMap_append]
  simp [hk]
theorem upto_all (zs : List Int) : upto zs zs.length 0 = bitsL zs := by
  unfold upto; rw [List.take_length, List.take_zero, List.append_nil]
theorem upto_zero (zs : List Int) : upto zs 0 0 = [] := rfl
theorem upto_prefix (zs : List Int) (k j : Nat) (hk : k < zs.length) (hj : j ≤ 8) : upto zs k j <+: bitsL zs := by
  refine List.IsPrefix.trans (l₂ := upto zs (k + 1) 0) ?_ ?_
  · rw [← upto_next zs k hk]
    unfold upto
    exact (List.prefix_append_right_inj _).2 (List.take_prefix_take_left (by omega))
  · unfold upto
    rw [List.take_zero, List.append_nil]
    unfold bitsL
    exact ⟨(zs.drop (k + 1)).flatMap bit8, by rw [← List.flatMap_append, List.take_append_drop]⟩
theorem bit_test (z : Int) (j : Nat) (h0 : 0 ≤ z) (h1 : z < 256) : (bits BinOp.and IntKind.u8 (z / 2 ^ (7 - j)) 1 == 1) = bitAt z j := by
  have h2 : 0 ≤ z / 2 ^ (7 - j) := Int.ediv_nonneg h0 (Int.pow_nonneg (by omega))
  have h3 : z / 2 ^ (7 - j) ≤ z := Int.ediv_le_self _ h0
  unfold bitAt
  rw [show bits BinOp.and IntKind.u8 (z / 2 ^ (7 - j)) 1 = z / 2 ^ (7 - j) % 2 from bits_mask .u8 8 (by decide) wraps_u8 1 (by decide) _ h2 (by omega)]
theorem bits1_in (F : Fence) (n : Nat) (h : F.fn 144) (hro : F.round = none) (hn : 1 ≤ n) (l Bn n₀ : Nat) (a : Option Addr) (len cap : Nat) (zs : List Int) (hlz : zs.length = len) (hlen : len ≤ 9223372036854775807) (hz : ∀ k : Nat, 0 ≤ zs[k]?.getD 0 ∧ zs[k]?.getD 0 < 256) (J Jx : List Bool → World → Prop)
    (hY : ∀ pre x W, J pre W → pre.length < 8 * len → YieldAt F (n - 1) Tryz.prog l #[.bool x] W fun e W' =>
      (e = .returned (.bool true) ∧ J (pre ++ [x]) W' ∧ Below n₀ W W') ∨ (e = .returned (.bool false) ∧ Jx (pre ++ [x]) W'))
    (W : World) (hBn : W.cell? ⟨Bn, 0, none⟩ = some (.slice a len cap))
    (hcell : 0 < len → ∃ b off, a = some ⟨b, off, none⟩ ∧ b < n₀ ∧ ∀ k, k < len → W.cell? ⟨b, off + k, none⟩ = some (.int .u8 (zs[k]?.getD 0))) (h0 : J [] W) :
    CallsIn F n Tryz.prog 144 #[.func (.yield l) #[] #[], .pointer (some ⟨Bn, 0, none⟩)] W fun e W' => (∃ v, e = .returned v) ∧
      ((∃ ys, ys = bitsL zs ∧ J ys W') ∨ (∃ pre, pre <+: bitsL zs ∧ Jx pre W')) := by
  refine callsIn_of_wp Tryz.func144 rfl h ?_ hro
  simp only [Tryz.ntmps144, List.size_toArray, List.length_cons, List.length_nil, Nat.reduceAdd, Nat.reduceSub, Array.replicate_succ, Array.replicate_zero, List.push_toArray, List.append_toArray, List.nil_append, List.cons_append]
  gi_wp2
  gi_loopw [4, 5, 8] (fun s4 s5 s8 wr => ∃ k : Nat, k ≤ len ∧ s8 = .int .i64 k ∧ J (upto zs k 0) wr ∧ Below n₀ W wr) (fun s4 s5 s8 wr => len - (intOf s8).toNat)
  case atStart => exact ⟨0, by omega, rfl, by rw [upto_zero]; exact h0, Below.refl _ _⟩
  case round =>
    obtain ⟨k, hk, rfl, hJ, hb⟩ := hrel
    by_cases hlt : k < len
    · obtain ⟨b, off, rfl, hbn, hc⟩ := hcell (by omega)
      have hck : wr.cell? ⟨b, off + k, none⟩ = some (.int .u8 (zs[k]?.getD 0)) := (hb.cell (p := ⟨b, off + k, none⟩) hbn).trans (hc k hlt)
      clear hc hcell
      have hzk := hz k
      obtain ⟨z, hz0⟩ : ∃ z, zs[k]?.getD 0 = z := ⟨_, rfl⟩
      rw [hz0] at hck hzk
      have HZ := Lib.hid hz0
      clear hz0 hz
      have hkl : k < zs.length := by omega
      have HL := Lib.hid hlz
      clear hlz
      gi_wp2
      gi_loopw [5] (fun s5 wq => ∃ j : Nat, j ≤ 8 ∧ s5 = .int .i64 (7 - (j : Int)) ∧ J (upto zs k j) wq ∧ Below n₀ W wq) (fun s5 wq => (intOf s5 + 1).toNat)
      case atStart => exact ⟨0, by omega, rfl, hJ, hb⟩
      case round =>
        obtain ⟨j, hj, rfl, hJ2, hb2⟩ := hrel
        by_cases hl2 : j < 8
        · have hbt := bit_test z j hzk.1 hzk.2
          obtain ⟨fn, tmps, assign, body, hy, hR⟩ := hY (upto zs k j) (bitAt z j) _ hJ2 (by rw [upto_len zs k j (by omega) hj]; omega)
          gi_wp2
          refine hR.mono ?_
          rintro e W3 (⟨rfl, hJ3, hk3⟩ | ⟨rfl, hJx3⟩)
          · have hb3 := hb2.trans (hk3.mono (Nat.le_refl _))
            gi_wp2
            go_roundw
            case rel =>
              refine ⟨j + 1, by omega, by go_num, ?_, hb3⟩
              rw [← upto_snoc zs k j hl2, HZ.out]; exact hJ3
            case measure => simp [intOf]; omega
          · gi_wp2
            refine bodyPost_ret (results_none rfl _ _ _) rfl ?_
            refine ⟨⟨_, rfl⟩, .inr ⟨_, ?_, hJx3⟩⟩
            rw [← HZ.out, upto_snoc zs k j hl2]; exact upto_prefix zs k (j + 1) hkl (by omega)
        · obtain rfl : j = 8 := by omega
          gi_wp2
          go_roundw
          case rel => exact ⟨k + 1, by omega, by go_num, by rw [← upto_next zs k hkl]; exact hJ2, hb2⟩
          case measure => simp [intOf]; omega
    · gi_wp2
      go_end0
      exact ⟨⟨_, rfl⟩, .inl ⟨_, by rw [show k = zs.length by omega, upto_all], hJ⟩⟩
theorem bits_stops (F : Fence) (n : Nat) (h : F.fn 144) (hro : F.round = none) (hn : 1 ≤ n) (Bn n₀ : Nat) (a : Option Addr) (len cap : Nat) (zs : List Int) (hlz : zs.length = len) (hlen : len ≤ 9223372036854775807) (hz : ∀ k : Nat, 0 ≤ zs[k]?.getD 0 ∧ zs[k]?.getD 0 < 256) (w : World) (hBn : Bn < w.heap.size) (hn₀ : n₀ ≤ w.heap.size)
    (hc : w.cell? ⟨Bn, 0, none⟩ = some (.slice a len cap))
    (hcell : 0 < len → ∃ b off, a = some ⟨b, off, none⟩ ∧ b < n₀ ∧ ∀ k, k < len → w.cell? ⟨b, off + k, none⟩ = some (.int .u8 (zs[k]?.getD 0))) :
    SeqStopsK F n Tryz.prog 144 #[.pointer (some ⟨Bn, 0, none⟩)] (fun x : Bool => #[Value.bool x]) (Below n₀) (fun ys => ys = bitsL zs) (fun pre => pre <+: bitsL zs) (8 * len) w := fun l J Jx W hW _ _ hY h0 =>
  bits1_in F n h hro hn l Bn n₀ a len cap zs hlz hlen hz J Jx hY W ((hW.cell (p := ⟨Bn, 0, none⟩) hBn).trans hc)
    (fun hp => by
      obtain ⟨b, off, h1, h2, h3⟩ := hcell hp
      exact ⟨b, off, h1, h2, fun k hk => (hW.cell (p := ⟨b, off + k, none⟩) (by show b < w.heap.size; omega)).trans (h3 k hk)⟩) h0
def stepR (top by' mask r : Int) (bit : Bool) : Int :=
  if (bits .and .u32 r top != 0) == bit then bits .and .u32 (r * 2 % 4294967296) mask else bits .xor .u32 (bits .and .u32 (r * 2 % 4294967296) mask) by'
def maskR (top : Int) : Int := (top * 2 - 1) % 4294967296
def restZ (zs : List Int) (r top by' : Int) : Int := (bitsL zs).foldl (stepR top by' (maskR top)) r
theorem bits_any (a : Option Addr) (len cap : Nat) (w : World) :
    Calls Tryz.prog 128 #[.slice a len cap] w fun e w' => e = .returned (.func (.func 144) #[] #[.pointer (some ⟨w.heap.size, 0, none⟩)]) ∧ w' = w.alloc (.cells #[.slice a len cap] 36) :=
  callsIn_wide.1 (bits_in Fence.wide 5 trivial rfl a len cap w)
theorem rest_any (a : Option Addr) (len cap : Nat) (zs : List Int) (hlz : zs.length = len) (hlen : len ≤ 9223372036854775807) (hz : ∀ k : Nat, 0 ≤ zs[k]?.getD 0 ∧ zs[k]?.getD 0 < 256) (r top by' : Int) (w : World)
    (hcell : 0 < len → ∃ b off, a = some ⟨b, off, none⟩ ∧ b < w.heap.size ∧ ∀ k, k < len → w.cell? ⟨b, off + k, none⟩ = some (.int .u8 (zs[k]?.getD 0))) :
    Calls Tryz.prog 104 #[.slice a len cap, .int .u32 r, .int .u32 top, .int .u32 by'] w fun e w' => e = .returned (.int .u32 (restZ zs r top by')) ∧ Below w.heap.size w w' := by
  refine (callsIn_wide (n := 9)).1 ?_
  refine callsIn_of_wp_marks Tryz.func104 rfl trivial ?_ rfl
  refine wpIn_wide.2 ?_
  simp only [Tryz.ntmps104, List.size_toArray, List.length_cons, List.length_nil, Nat.reduceAdd, Nat.reduceSub, Array.replicate_succ, Array.replicate_zero, List.push_toArray, List.append_toArray, List.nil_append, List.cons_append]
  have HZ := Lib.hid hz
  have HC := Lib.hid hcell
  have HL := Lib.hid hlz
  clear hz hcell hlz
  go_wp2
  go_step3
  go_wp2
  go_step3
  go_wp2_with (go_at_call 128; refine (bits_any _ _ _ _).mono ?_; rintro e w' ⟨rfl, rfl⟩)
  have hB0 : Below w.heap.size w (((((w.alloc (.cells #[.int .u32 r] 50)).alloc (.cells #[.int .u32 top] 50)).alloc (.cells #[.int .u32 by'] 50)).alloc (.cells #[.int .u32 ((top * 2 - 1) % 4294967296)] 50)).alloc (.cells #[.slice a len cap] 36)) := by (repeat' (first | exact Below.refl _ _ | assumption | (refine Below.grown ?_ (by assumption) (by first | omega | (simp; omega)) (by simp [Value.ownBlock]; try omega)) | (refine below_drewN ?_ _) | (refine Below.drew ?_) | (refine Below.alloc ?_ (by first | omega | (simp; done) | (simp; omega)) _) | (refine Below.setCell ?_ (by first | omega | (simp; done) | (simp; omega)) _) | (refine below_then ?_ (Aft.below _)) | (apply below_then; rotate_left; assumption)))
  obtain ⟨f, hfold⟩ : ∃ f : List Bool → Int, f = fun pre => pre.foldl (stepR top by' ((top * 2 - 1) % 4294967296)) r := ⟨_, rfl⟩
  have hf0 : f [] = r := by rw [hfold]; rfl
  have hf1 : ∀ pre x, f (pre ++ [x]) = stepR top by' ((top * 2 - 1) % 4294967296) (f pre) x := fun pre x => by rw [hfold]; simp [List.foldl_append]
  have hf2 : f (bitsL zs) = restZ zs r top by' := by rw [hfold]; rfl
  have HF1 := Lib.hid hf1
  have HF2 := Lib.hid hf2
  clear hf1 hf2 hfold
  obtain ⟨m, hm⟩ : ∃ m, m = (top * 2 - 1) % 4294967296 := ⟨_, rfl⟩
  rw [← hm] at hB0 ⊢
  have HM := Lib.hid hm
  clear hm
  refine (wpIn_wide (n := 8)).1 ?_
  refine wpIn_rangeFunc_ownF rfl (by omega) (gf := 144) (lb := #[.pointer (some ⟨w.heap.size + 1 + 1 + 1 + 1, 0, none⟩)]) rfl trivial (enters_of Tryz.func144 (by kernel_rfl) rfl)
    (bits_stops Fence.wide (8 - 1) trivial rfl (by omega) (w.heap.size + 1 + 1 + 1 + 1) w.heap.size a len cap zs HL.out hlen HZ.out _ (by simp) (by simp; omega) (by simp [go_sem])
      (fun hp => by obtain ⟨b, off, g1, g2, g3⟩ := HC.out hp; exact ⟨b, off, g1, g2, fun k hk => (hB0.cell (p := ⟨b, off + k, none⟩) g2).trans (g3 k hk)⟩))
    belowK_t (belowK_b (by simp; omega)) (Below.refl _ _) (fun _ => rfl)
    (fun pre W => (W.cell? ⟨w.heap.size, 0, none⟩ = some (.int .u32 (f pre)) ∧ W.frozen? ⟨w.heap.size, 0, none⟩ = false ∧ W.cell? ⟨w.heap.size + 1, 0, none⟩ = some (.int .u32 top) ∧ W.cell? ⟨w.heap.size + 1 + 1, 0, none⟩ = some (.int .u32 by') ∧ W.cell? ⟨w.heap.size + 1 + 1 + 1, 0, none⟩ = some (.int .u32 m)) ∧ Below w.heap.size w W)
    (fun _ _ _ => False)
    (OwnFrom.and (Own.from (fun s A B row hs hg hr => ⟨cell_kept hs.1 hg hr, (frozen_kept hs.1 hg hr).trans hs.2.1, cell_kept hs.2.2.1 hg hr, cell_kept hs.2.2.2.1 hg hr, cell_kept hs.2.2.2.2 hg hr⟩) _) (ownFrom_below (Nat.le_refl _) (by simp; omega)))
    (fun _ _ _ _ _ hs _ _ => hs)
    ⟨by rw [hf0]; refine ⟨?_, ?_, ?_, ?_, ?_⟩ <;> simp [go_sem], hB0⟩
    (fun x => { tmps := #[.slice a len cap, .int .u32 r, .int .u32 top, .int .u32 by', undef, .pointer (some ⟨w.heap.size, 0, none⟩), .pointer (some ⟨w.heap.size + 1, 0, none⟩), .pointer (some ⟨w.heap.size + 1 + 1, 0, none⟩), .int .u32 0, .pointer (some ⟨w.heap.size + 1 + 1 + 1, 0, none⟩), .bool x, undef, .int .u32 top, .int .u32 (top * 2 % 4294967296), .int .u32 m, .slice a len cap, .func (.func 144) #[] #[.pointer (some ⟨w.heap.size + 1 + 1 + 1 + 1, 0, none⟩)], .bool x, undef, undef, undef, undef, undef, undef, undef, undef, undef, undef, undef, undef, undef, undef, undef], defers := [] }) ?assign ?body ?done ?stop
  case assign =>
    intro l x W K hK
    gi_wp2
    exact hK
  case body =>
    rintro l pre x W ⟨⟨c0, c1, c2, c3, c4⟩, hB⟩ _
    gi_wp2
    · rename_i ht
      refine ⟨KeepsOthers.setCell _ _ _, (Below.refl w.heap.size W).setCell (p := ⟨w.heap.size, 0, none⟩) (Nat.le_refl _) _, ⟨?_, by rw [World.frozen?_setCell]; exact c1, by simp [go_sem, c2], by simp [go_sem, c3], by simp [go_sem, c4]⟩, hB.setCell (p := ⟨w.heap.size, 0, none⟩) (Nat.le_refl _) _⟩
      rw [HF1.out, ← HM.out]
      unfold stepR
      rw [if_pos (by go_light; simpa using ht)]
      exact World.cell?_setCell_same' _ _ _ (by rw [c0]; rfl)
    · rename_i ht
      refine ⟨(KeepsOthers.setCell _ _ _).trans (KeepsOthers.setCell _ _ _), ((Below.refl w.heap.size W).setCell (p := ⟨w.heap.size, 0, none⟩) (Nat.le_refl _) _).setCell (p := ⟨w.heap.size, 0, none⟩) (Nat.le_refl _) _, ⟨?_, by rw [World.frozen?_setCell, World.frozen?_setCell]; exact c1, by simp [go_sem, c2], by simp [go_sem, c3], by simp [go_sem, c4]⟩, (hB.setCell (p := ⟨w.heap.size, 0, none⟩) (Nat.le_refl _) _).setCell (p := ⟨w.heap.size, 0, none⟩) (Nat.le_refl _) _⟩
      rw [HF1.out, ← HM.out]
      unfold stepR
      rw [if_neg (by go_light; simpa using ht)]
      exact World.cell?_setCell_same' _ _ _ (by simp [go_sem, c0])
  case done =>
    rintro D ys W hD rfl ⟨⟨c0, c1, c2, c3, c4⟩, hB⟩ hK
    go_wp2
    rw [Exit.noGoto_ret]
    refine ⟨by simp, .inl ⟨_, _, rfl, run_takeDeferred hK, ?_⟩⟩
    refine ⟨_, results_tmp rfl _ _ _, ?_, hB.trans (belowK_b (w := w) (Nat.le_refl _) W D _ _ (by simp at hD; omega) hK rfl rfl)⟩
    exact ret_int HF2.out
  case stop =>
    rintro D c pre W _ _ h _
    exact h.elim
end Go.Proofs.YtaoagbnhomjkpaaGreat
