/- The walks of the layer 'sums': bits, one behind the other; a register behind bytes. -/
import Derived.Test.YtnjjejhniekdcaaKit2
import Derived.RangeFuncNested
import Derived.RangeFuncBound
import Derived.RangeFuncCalls
import Derived.RangeFuncLeaves
import Derived.RangeFuncFrom
import Derived.Shelf.Abstract
import Derived.Shelf.RegionOpen
import Derived.WalkKit
import Derived.OwnWalkIn
import Derived.TacticsInMore
import Derived.LoopNIn
import Derived.LoopIn
namespace Go.Proofs.Ytnjjejhniekdcaa
set_option linter.unusedVariables false
set_option linter.unusedSimpArgs false
open Go.RowKit Go.Shelf
set_option maxRecDepth 100000
set_option maxHeartbeats 4000000
attribute [local go_sem] Oper.semAt_some
def bitAt (z : Int) (j : Nat) : Bool := z / 2 ^ (7 - j) % 2 == 1
def bit8 (z : Int) : List Bool := (List.range 8).map (bitAt z)
def bitsL (zs : List Int) : List Bool := zs.flatMap bit8
theorem bits_in (F : Fence) (n : Nat) (h : F.fn 41) (hro : F.round = none) (a : Option Addr) (len cap : Nat) (w : World) :
    CallsIn F n Try.prog 41 #[.slice a len cap] w fun e w' => e = .returned (.func (.func 42) #[] #[.pointer (some ⟨w.heap.size, 0, none⟩)]) ∧ w' = w.alloc (.cells #[.slice a len cap] 32) := by
  refine callsIn_of_wp Try.func41 rfl h ?_ hro
  simp only [Try.ntmps41, List.size_toArray, List.length_cons, List.length_nil, Nat.reduceAdd, Nat.reduceSub, Array.replicate_succ, Array.replicate_zero, List.push_toArray, List.append_toArray, List.nil_append, List.cons_append]
  gi_wp2
  go_ret
  exact ⟨rfl, rfl⟩
/-- what has come when k bytes are over, and j bits of the next one. -/
def upto (zs : List Int) (k j : Nat) : List Bool := bitsL (zs.take k) ++ (bit8 (zs[k]?.getD 0)).take j
theorem bit8_len (z : Int) : (bit8 z).length = 8 := by simp [bit8]
theorem bitsL_len (zs : List Int) : (bitsL zs).length = 8 * zs.length := by
  induction zs with
  | nil => rfl
  | cons z zs ih =>
    have e : bitsL (z :: zs) = bit8 z ++ bitsL zs := rfl
    rw [e, List.length_append, ih, bit8_len, List.length_cons]; omega
theorem upto_len (zs : List Int) (k j : Nat) (hk : k ≤ zs.length) (hj : j ≤ 8) : (upto zs k j).length = 8 * k + j := by
  unfold upto
  rw [List.length_append, bitsL_len, List.length_take, List.length_take, bit8_len]; omega
theorem upto_snoc (zs : List Int) (k j : Nat) (hj : j < 8) : upto zs k j ++ [bitAt (zs[k]?.getD 0) j] = upto zs k (j + 1) := by
  unfold upto
  rw [List.append_assoc]
  congr 1
  rw [List.take_succ_eq_append_getElem (by rw [bit8_len]; omega)]
  congr 1
  simp [bit8]
theorem upto_next (zs : List Int) (k : Nat) (hk : k < zs.length) : upto zs k 8 = upto zs (k + 1) 0 := by
  unfold upto
  have e1 : (bit8 (zs[k]?.getD 0)).take 8 = bit8 (zs[k]?.getD 0) := List.take_of_length_le (by rw [bit8_len]; omega)
  rw [e1, List.take_zero, List.append_nil, List.take_succ_eq_append_getElem hk]
  unfold bitsL
  rw [List.flatMap_append]
  simp [hk]
theorem upto_all (zs : List Int) : upto zs zs.length 0 = bitsL zs := by
  unfold upto; rw [List.take_length, List.take_zero, List.append_nil]
theorem upto_zero (zs : List Int) : upto zs 0 0 = [] := rfl
theorem upto_prefix (zs : List Int) (k j : Nat) (hk : k < zs.length) (hj : j ≤ 8) : upto zs k j <+: bitsL zs := by
  refine List.IsPrefix.trans (l₂ := upto zs (k + 1) 0) ?_ ?_
  · rw [← upto_next zs k hk]
    unfold upto
    exact (List.prefix_append_right_inj _).2 (List.take_prefix_take_left (by omega))
  · unfold upto
    rw [List.take_zero, List.append_nil]
    unfold bitsL
    exact ⟨(zs.drop (k + 1)).flatMap bit8, by rw [← List.flatMap_append, List.take_append_drop]⟩
theorem bit_test (z : Int) (j : Nat) (h0 : 0 ≤ z) (h1 : z < 256) : (bits BinOp.and IntKind.u8 (z / 2 ^ (7 - j)) 1 == 1) = bitAt z j := by
  have h2 : 0 ≤ z / 2 ^ (7 - j) := Int.ediv_nonneg h0 (Int.pow_nonneg (by omega))
  have h3 : z / 2 ^ (7 - j) ≤ z := Int.ediv_le_self _ h0
  unfold bitAt
  rw [show bits BinOp.and IntKind.u8 (z / 2 ^ (7 - j)) 1 = z / 2 ^ (7 - j) % 2 from bits_mask .u8 8 (by decide) wraps_u8 1 (by decide) _ h2 (by omega)]
theorem bits1_in (F : Fence) (n : Nat) (h : F.fn 42) (hro : F.round = none) (hn : 1 ≤ n) (l Bn n₀ : Nat) (a : Option Addr) (len cap : Nat) (zs : List Int) (hlz : zs.length = len) (hlen : len ≤ 9223372036854775807) (hz : ∀ k : Nat, 0 ≤ zs[k]?.getD 0 ∧ zs[k]?.getD 0 < 256) (J Jx : List Bool → World → Prop)
    (hY : ∀ pre x W, J pre W → pre.length < 8 * len → YieldAt F (n - 1) Try.prog l #[.bool x] W fun e W' =>
      (e = .returned (.bool true) ∧ J (pre ++ [x]) W' ∧ Below n₀ W W') ∨ (e = .returned (.bool false) ∧ Jx (pre ++ [x]) W'))
    (W : World) (hBn : W.cell? ⟨Bn, 0, none⟩ = some (.slice a len cap))
    (hcell : 0 < len → ∃ b off, a = some ⟨b, off, none⟩ ∧ b < n₀ ∧ ∀ k, k < len → W.cell? ⟨b, off + k, none⟩ = some (.int .u8 (zs[k]?.getD 0))) (h0 : J [] W) :
    CallsIn F n Try.prog 42 #[.func (.yield l) #[] #[], .pointer (some ⟨Bn, 0, none⟩)] W fun e W' => (∃ v, e = .returned v) ∧
      ((∃ ys, ys = bitsL zs ∧ J ys W') ∨ (∃ pre, pre <+: bitsL zs ∧ Jx pre W')) := by
  refine callsIn_of_wp Try.func42 rfl h ?_ hro
  simp only [Try.ntmps42, List.size_toArray, List.length_cons, List.length_nil, Nat.reduceAdd, Nat.reduceSub, Array.replicate_succ, Array.replicate_zero, List.push_toArray, List.append_toArray, List.nil_append, List.cons_append]
  gi_wp2
  gi_loopw [4, 5, 8] (fun s4 s5 s8 wr => ∃ k : Nat, k ≤ len ∧ s8 = .int .i64 k ∧ J (upto zs k 0) wr ∧ Below n₀ W wr) (fun s4 s5 s8 wr => len - (intOf s8).toNat)
  case atStart => exact ⟨0, by omega, rfl, by rw [upto_zero]; exact h0, Below.refl _ _⟩
  case round =>
    obtain ⟨k, hk, rfl, hJ, hb⟩ := hrel
    by_cases hlt : k < len
    · obtain ⟨b, off, rfl, hbn, hc⟩ := hcell (by omega)
      have hck : wr.cell? ⟨b, off + k, none⟩ = some (.int .u8 (zs[k]?.getD 0)) := (hb.cell (p := ⟨b, off + k, none⟩) hbn).trans (hc k hlt)
      clear hc hcell
      have hzk := hz k
      obtain ⟨z, hz0⟩ : ∃ z, zs[k]?.getD 0 = z := ⟨_, rfl⟩
      rw [hz0] at hck hzk
      have HZ := Lib.hid hz0
      clear hz0 hz
      have hkl : k < zs.length := by omega
      have HL := Lib.hid hlz
      clear hlz
      gi_wp2
      gi_loopw [5] (fun s5 wq => ∃ j : Nat, j ≤ 8 ∧ s5 = .int .i64 (7 - (j : Int)) ∧ J (upto zs k j) wq ∧ Below n₀ W wq) (fun s5 wq => (intOf s5 + 1).toNat)
      case atStart => exact ⟨0, by omega, rfl, hJ, hb⟩
      case round =>
        obtain ⟨j, hj, rfl, hJ2, hb2⟩ := hrel
        by_cases hl2 : j < 8
        · have hbt := bit_test z j hzk.1 hzk.2
          obtain ⟨fn, tmps, assign, body, hy, hR⟩ := hY (upto zs k j) (bitAt z j) _ hJ2 (by rw [upto_len zs k j (by omega) hj]; omega)
          gi_wp2
          refine hR.mono ?_
          rintro e W3 (⟨rfl, hJ3, hk3⟩ | ⟨rfl, hJx3⟩)
          · have hb3 := hb2.trans (hk3.mono (Nat.le_refl _))
            gi_wp2
            go_roundw
            case rel =>
              refine ⟨j + 1, by omega, by go_num, ?_, hb3⟩
              rw [← upto_snoc zs k j hl2, HZ.out]; exact hJ3
            case measure => simp [intOf]; omega
          · gi_wp2
            refine bodyPost_ret (results_none rfl _ _ _) rfl ?_
            refine ⟨⟨_, rfl⟩, .inr ⟨_, ?_, hJx3⟩⟩
            rw [← HZ.out, upto_snoc zs k j hl2]; exact upto_prefix zs k (j + 1) hkl (by omega)
        · obtain rfl : j = 8 := by omega
          gi_wp2
          go_roundw
          case rel => exact ⟨k + 1, by omega, by go_num, by rw [← upto_next zs k hkl]; exact hJ2, hb2⟩
          case measure => simp [intOf]; omega
    · gi_wp2
      go_end0
      exact ⟨⟨_, rfl⟩, .inl ⟨_, by rw [show k = zs.length by omega, upto_all], hJ⟩⟩
theorem bits_stops (F : Fence) (n : Nat) (h : F.fn 42) (hro : F.round = none) (hn : 1 ≤ n) (Bn n₀ : Nat) (a : Option Addr) (len cap : Nat) (zs : List Int) (hlz : zs.length = len) (hlen : len ≤ 9223372036854775807) (hz : ∀ k : Nat, 0 ≤ zs[k]?.getD 0 ∧ zs[k]?.getD 0 < 256) (w : World) (hBn : Bn < w.heap.size) (hn₀ : n₀ ≤ w.heap.size)
    (hc : w.cell? ⟨Bn, 0, none⟩ = some (.slice a len cap))
    (hcell : 0 < len → ∃ b off, a = some ⟨b, off, none⟩ ∧ b < n₀ ∧ ∀ k, k < len → w.cell? ⟨b, off + k, none⟩ = some (.int .u8 (zs[k]?.getD 0))) :
    SeqStopsK F n Try.prog 42 #[.pointer (some ⟨Bn, 0, none⟩)] (fun x : Bool => #[Value.bool x]) (Below n₀) (fun ys => ys = bitsL zs) (fun pre => pre <+: bitsL zs) (8 * len) w := fun l J Jx W hW _ _ hY h0 =>
  bits1_in F n h hro hn l Bn n₀ a len cap zs hlz hlen hz J Jx hY W ((hW.cell (p := ⟨Bn, 0, none⟩) hBn).trans hc)
    (fun hp => by
      obtain ⟨b, off, h1, h2, h3⟩ := hcell hp
      exact ⟨b, off, h1, h2, fun k hk => (hW.cell (p := ⟨b, off + k, none⟩) (by show b < w.heap.size; omega)).trans (h3 k hk)⟩) h0
def stepR (top by' mask r : Int) (bit : Bool) : Int :=
  if (bits .and .u32 r top != 0) == bit then bits .and .u32 (r * 2 % 4294967296) mask else bits .xor .u32 (bits .and .u32 (r * 2 % 4294967296) mask) by'
def maskR (top : Int) : Int := (top * 2 - 1) % 4294967296
def restZ (zs : List Int) (r top by' : Int) : Int := (bitsL zs).foldl (stepR top by' (maskR top)) r
theorem bits_any (a : Option Addr) (len cap : Nat) (w : World) :
    Calls Try.prog 41 #[.slice a len cap] w fun e w' => e = .returned (.func (.func 42) #[] #[.pointer (some ⟨w.heap.size, 0, none⟩)]) ∧ w' = w.alloc (.cells #[.slice a len cap] 32) :=
  callsIn_wide.1 (bits_in Fence.wide 5 trivial rfl a len cap w)
theorem rest_any (a : Option Addr) (len cap : Nat) (zs : List Int) (hlz : zs.length = len) (hlen : len ≤ 9223372036854775807) (hz : ∀ k : Nat, 0 ≤ zs[k]?.getD 0 ∧ zs[k]?.getD 0 < 256) (r top by' : Int) (w : World)
    (hcell : 0 < len → ∃ b off, a = some ⟨b, off, none⟩ ∧ b < w.heap.size ∧ ∀ k, k < len → w.cell? ⟨b, off + k, none⟩ = some (.int .u8 (zs[k]?.getD 0))) :
    Calls Try.prog 40 #[.slice a len cap, .int .u32 r, .int .u32 top, .int .u32 by'] w fun e w' => e = .returned (.int .u32 (restZ zs r top by')) ∧ Below w.heap.size w w' := by
  refine (callsIn_wide (n := 9)).1 ?_
  refine callsIn_of_wp_marks Try.func40 rfl trivial ?_ rfl
  refine wpIn_wide.2 ?_
  simp only [Try.ntmps40, List.size_toArray, List.length_cons, List.length_nil, Nat.reduceAdd, Nat.reduceSub, Array.replicate_succ, Array.replicate_zero, List.push_toArray, List.append_toArray, List.nil_append, List.cons_append]
  have HZ := Lib.hid hz
  have HC := Lib.hid hcell
  have HL := Lib.hid hlz
  clear hz hcell hlz
  go_wp2
  go_step3
  go_wp2
  go_step3
  go_wp2_with (go_at_call 41; refine (bits_any _ _ _ _).mono ?_; rintro e w' ⟨rfl, rfl⟩)
  have hB0 : Below w.heap.size w (((((w.alloc (.cells #[.int .u32 r] 23)).alloc (.cells #[.int .u32 top] 23)).alloc (.cells #[.int .u32 by'] 23)).alloc (.cells #[.int .u32 ((top * 2 - 1) % 4294967296)] 23)).alloc (.cells #[.slice a len cap] 32)) := by (repeat' (first | exact Below.refl _ _ | assumption | (refine Below.grown ?_ (by assumption) (by first | omega | (simp; omega)) (by simp [Value.ownBlock]; try omega)) | (refine below_drewN ?_ _) | (refine Below.drew ?_) | (refine Below.alloc ?_ (by first | omega | (simp; done) | (simp; omega)) _) | (refine Below.setCell ?_ (by first | omega | (simp; done) | (simp; omega)) _) | (refine below_then ?_ (Aft.below _)) | (apply below_then; rotate_left; assumption)))
  obtain ⟨f, hfold⟩ : ∃ f : List Bool → Int, f = fun pre => pre.foldl (stepR top by' ((top * 2 - 1) % 4294967296)) r := ⟨_, rfl⟩
  have hf0 : f [] = r := by rw [hfold]; rfl
  have hf1 : ∀ pre x, f (pre ++ [x]) = stepR top by' ((top * 2 - 1) % 4294967296) (f pre) x := fun pre x => by rw [hfold]; simp [List.foldl_append]
  have hf2 : f (bitsL zs) = restZ zs r top by' := by rw [hfold]; rfl
  have HF1 := Lib.hid hf1
  have HF2 := Lib.hid hf2
  clear hf1 hf2 hfold
  obtain ⟨m, hm⟩ : ∃ m, m = (top * 2 - 1) % 4294967296 := ⟨_, rfl⟩
  rw [← hm] at hB0 ⊢
  have HM := Lib.hid hm
  clear hm
  refine (wpIn_wide (n := 8)).1 ?_
  refine wpIn_rangeFunc_ownF rfl (by omega) (gf := 42) (lb := #[.pointer (some ⟨w.heap.size + 1 + 1 + 1 + 1, 0, none⟩)]) rfl trivial (enters_of Try.func42 (by kernel_rfl) rfl)
    (bits_stops Fence.wide (8 - 1) trivial rfl (by omega) (w.heap.size + 1 + 1 + 1 + 1) w.heap.size a len cap zs HL.out hlen HZ.out _ (by simp) (by simp; omega) (by simp [go_sem])
      (fun hp => by obtain ⟨b, off, g1, g2, g3⟩ := HC.out hp; exact ⟨b, off, g1, g2, fun k hk => (hB0.cell (p := ⟨b, off + k, none⟩) g2).trans (g3 k hk)⟩))
    belowK_t (belowK_b (by simp; omega)) (Below.refl _ _) (fun _ => rfl)
    (fun pre W => (W.cell? ⟨w.heap.size, 0, none⟩ = some (.int .u32 (f pre)) ∧ W.frozen? ⟨w.heap.size, 0, none⟩ = false ∧ W.cell? ⟨w.heap.size + 1, 0, none⟩ = some (.int .u32 top) ∧ W.cell? ⟨w.heap.size + 1 + 1, 0, none⟩ = some (.int .u32 by') ∧ W.cell? ⟨w.heap.size + 1 + 1 + 1, 0, none⟩ = some (.int .u32 m)) ∧ Below w.heap.size w W)
    (fun _ _ _ => False)
    (OwnFrom.and (Own.from (fun s A B row hs hg hr => ⟨cell_kept hs.1 hg hr, (frozen_kept hs.1 hg hr).trans hs.2.1, cell_kept hs.2.2.1 hg hr, cell_kept hs.2.2.2.1 hg hr, cell_kept hs.2.2.2.2 hg hr⟩) _) (ownFrom_below (Nat.le_refl _) (by simp; omega)))
    (fun _ _ _ _ _ hs _ _ => hs)
    ⟨by rw [hf0]; refine ⟨?_, ?_, ?_, ?_, ?_⟩ <;> simp [go_sem], hB0⟩
    (fun x => { tmps := #[.slice a len cap, .int .u32 r, .int .u32 top, .int .u32 by', undef, .pointer (some ⟨w.heap.size, 0, none⟩), .pointer (some ⟨w.heap.size + 1, 0, none⟩), .pointer (some ⟨w.heap.size + 1 + 1, 0, none⟩), .int .u32 0, .pointer (some ⟨w.heap.size + 1 + 1 + 1, 0, none⟩), .bool x, undef, .int .u32 top, .int .u32 (top * 2 % 4294967296), .int .u32 m, .slice a len cap, .func (.func 42) #[] #[.pointer (some ⟨w.heap.size + 1 + 1 + 1 + 1, 0, none⟩)], .bool x, undef, undef, undef, undef, undef, undef, undef, undef, undef, undef, undef, undef, undef, undef, undef], defers := [] }) ?assign ?body ?done ?stop
  case assign =>
    intro l x W K hK
    gi_wp2
    exact hK
  case body =>
    rintro l pre x W ⟨⟨c0, c1, c2, c3, c4⟩, hB⟩ _
    gi_wp2
    · rename_i ht
      refine ⟨KeepsOthers.setCell _ _ _, (Below.refl w.heap.size W).setCell (p := ⟨w.heap.size, 0, none⟩) (Nat.le_refl _) _, ⟨?_, by rw [World.frozen?_setCell]; exact c1, by simp [go_sem, c2], by simp [go_sem, c3], by simp [go_sem, c4]⟩, hB.setCell (p := ⟨w.heap.size, 0, none⟩) (Nat.le_refl _) _⟩
      rw [HF1.out, ← HM.out]
      unfold stepR
      rw [if_pos (by go_light; simpa using ht)]
      exact World.cell?_setCell_same' _ _ _ (by rw [c0]; rfl)
    · rename_i ht
      refine ⟨(KeepsOthers.setCell _ _ _).trans (KeepsOthers.setCell _ _ _), ((Below.refl w.heap.size W).setCell (p := ⟨w.heap.size, 0, none⟩) (Nat.le_refl _) _).setCell (p := ⟨w.heap.size, 0, none⟩) (Nat.le_refl _) _, ⟨?_, by rw [World.frozen?_setCell, World.frozen?_setCell]; exact c1, by simp [go_sem, c2], by simp [go_sem, c3], by simp [go_sem, c4]⟩, (hB.setCell (p := ⟨w.heap.size, 0, none⟩) (Nat.le_refl _) _).setCell (p := ⟨w.heap.size, 0, none⟩) (Nat.le_refl _) _⟩
      rw [HF1.out, ← HM.out]
      unfold stepR
      rw [if_neg (by go_light; simpa using ht)]
      exact World.cell?_setCell_same' _ _ _ (by simp [go_sem, c0])
  case done =>
    rintro D ys W hD rfl ⟨⟨c0, c1, c2, c3, c4⟩, hB⟩ hK
    go_wp2
    rw [Exit.noGoto_ret]
    refine ⟨by simp, .inl ⟨_, _, rfl, run_takeDeferred hK, ?_⟩⟩
    refine ⟨_, results_tmp rfl _ _ _, ?_, hB.trans (belowK_b (w := w) (Nat.le_refl _) W D _ _ (by simp at hD; omega) hK rfl rfl)⟩
    exact ret_int HF2.out
  case stop =>
    rintro D c pre W _ _ h _
    exact h.elim
end Go.Proofs.Ytnjjejhniekdcaa
