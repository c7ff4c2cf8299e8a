/- The walk of sums.Bit: which single bit a difference tells. -/
import Derived.Test.YtdlghiekcgplaaaSumsE
import Derived.StillTailTactics
import Derived.IntWalk
namespace Go.Proofs.Ytdlghiekcgplaaa
set_option linter.unusedVariables false
set_option linter.unusedSimpArgs false
open Go.RowKit
set_option maxRecDepth 100000
set_option maxHeartbeats 8000000
theorem region_tail {P : Program} {id : Nat} {Q : Exit → Act → World → Prop} {a : Act} {w : World} {l : List Oper} (n : Nat) (hm : P.follows .mixedOrders = true) (hB : Region.lexTailB .any l.toArray n = true)
    (h : wpStill P l.toArray w.drew (fun a' => wpList P l.toArray Q (l.drop n) a' w.drew) (l.take n) a) : (Code.region id l.toArray true).wp P Q a w := wp_region_still_tail n hm hB h
/-- bytes with a bit turned over. -/
def flipZ (zs : List Int) (k : Nat) : List Int := zs.set (k / 8) (bits .xor .u8 (zs[k / 8]?.getD 0) (128 / 2 ^ (k % 8)))
def tabZ (k : Nat) : Int := synd (flipZ [0, 0, 0, 0, 85] k)
theorem five_at {w : World} {b : Nat} {x y z u v : Int} (hb : b < w.heap.size) (h0 : w.cell? ⟨b, 0, none⟩ = some (.int .u8 x)) (h1 : w.cell? ⟨b, 1, none⟩ = some (.int .u8 y)) (h2 : w.cell? ⟨b, 2, none⟩ = some (.int .u8 z)) (h3 : w.cell? ⟨b, 3, none⟩ = some (.int .u8 u)) (h4 : w.cell? ⟨b, 4, none⟩ = some (.int .u8 v))
    (hv : ∀ q ∈ [x, y, z, u, v], 0 ≤ q ∧ q < 256) : BytesAt w (some ⟨b, 0, none⟩) 5 [x, y, z, u, v] :=
  ⟨rfl, by omega, fun k => by
    match k with
    | 0 => exact hv x (by simp)
    | 1 => exact hv y (by simp)
    | 2 => exact hv z (by simp)
    | 3 => exact hv u (by simp)
    | 4 => exact hv v (by simp)
    | k + 5 => simp,
   fun _ => ⟨b, 0, rfl, hb, fun k hk => by
    match k, hk with
    | 0, _ => exact h0
    | 1, _ => exact h1
    | 2, _ => exact h2
    | 3, _ => exact h3
    | 4, _ => exact h4⟩⟩
/-- the first bit that tells a difference, from bit k on. -/
def findZ (s : Int) : Nat → Nat → Option Nat
  | 0, _ => none
  | n + 1, k => if tabZ k = s then some k else findZ s n (k + 1)
def bitOf (s : Int) : Option Nat := findZ s 40 0
attribute [local irreducible] synd
/-- what Bit hands back. -/
def bitV (s : Int) : Value := match bitOf s with
  | some k => .tuple #[.int .i64 k, .bool true]
  | none => .tuple #[.int .i64 0, .bool false]
theorem bit_yes {s : Int} {k n : Nat} (h : bitOf s = findZ s (n + 1) k) (ht : (tabZ k == s) = true) : bitV s = .tuple #[.int .i64 k, .bool true] := by
  unfold bitV; rw [h]; unfold findZ; rw [if_pos (eq_of_beq ht)]
theorem bit_next {s : Int} {k n : Nat} (h : bitOf s = findZ s (n + 1) k) (ht : (tabZ k == s) = false) : bitOf s = findZ s n (k + 1) := by
  rw [h]; show (if tabZ k = s then some k else findZ s n (k + 1)) = _; rw [if_neg (by simpa using ht)]
theorem bit_any (s : Int) (w : World) (h0 : 0 ≤ s) (h1 : s < 256) :
    Calls Try.prog 54 #[.int .u8 s] w fun e w' => e = .returned (bitV s) ∧ Below w.heap.size w w' := by
  have W0 : IntKind.i64.wrap 0 = 0 := by decide
  have W1 : IntKind.i64.wrap 1 = 1 := by decide
  have W2 : IntKind.i64.wrap 2 = 2 := by decide
  have W3 : IntKind.i64.wrap 3 = 3 := by decide
  have W4 : IntKind.i64.wrap 4 = 4 := by decide
  have W5 : IntKind.i64.wrap 5 = 5 := by decide
  have W6 : IntKind.i64.wrap 6 = 6 := by decide
  have W7 : IntKind.i64.wrap 7 = 7 := by decide
  go_enter Try.func54, Try.ntmps54
  go_wp2
  go_loopw [2, 3, 4, 5, 6] (fun s2 s3 s4 s5 s6 wr => ∃ i : Int, 0 ≤ i ∧ i ≤ 40 ∧ s2 = .int .i64 0 ∧ s3 = .bool false ∧ s6 = .int .i64 i ∧ Hid (bitOf s = findZ s (40 - i.toNat) i.toNat) ∧ Below w.heap.size w wr) (fun s2 s3 s4 s5 s6 wr => 40 - (intOf s6).toNat)
  case atStart => exact ⟨0, by omega, by omega, rfl, rfl, rfl, Lib.hid rfl, Below.refl _ _⟩
  case round =>
    obtain ⟨i, hi0, hi1, rfl, rfl, rfl, HT, hB⟩ := hrel
    by_cases hlt : i < 40
    · have hi : i = 0 ∨ i = 1 ∨ i = 2 ∨ i = 3 ∨ i = 4 ∨ i = 5 ∨ i = 6 ∨ i = 7 ∨ i = 8 ∨ i = 9 ∨ i = 10 ∨ i = 11 ∨ i = 12 ∨ i = 13 ∨ i = 14 ∨ i = 15 ∨ i = 16 ∨ i = 17 ∨ i = 18 ∨ i = 19 ∨ i = 20 ∨ i = 21 ∨ i = 22 ∨ i = 23 ∨ i = 24 ∨ i = 25 ∨ i = 26 ∨ i = 27 ∨ i = 28 ∨ i = 29 ∨ i = 30 ∨ i = 31 ∨ i = 32 ∨ i = 33 ∨ i = 34 ∨ i = 35 ∨ i = 36 ∨ i = 37 ∨ i = 38 ∨ i = 39 := by omega
      rcases hi with rfl | rfl | rfl | rfl | rfl | rfl | rfl | rfl | rfl | rfl | rfl | rfl | rfl | rfl | rfl | rfl | rfl | rfl | rfl | rfl | rfl | rfl | rfl | rfl | rfl | rfl | rfl | rfl | rfl | rfl | rfl | rfl | rfl | rfl | rfl | rfl | rfl | rfl | rfl | rfl
      all_goals
        go_wp2
        have hw : ∃ w2 : World, w2 = (wr.alloc (.cells #[.int .u8 0, .int .u8 0, .int .u8 0, .int .u8 0, .int .u8 85] 85)).drew := ⟨_, rfl⟩
        obtain ⟨w2, hw2⟩ := hw
        refine region_tail 9 (by kernel_rfl) (by kernel_rfl) ?_
        rw [← hw2]
        have q0 : w2.cell? ⟨wr.heap.size, 0, none⟩ = some (.int .u8 0) := by rw [hw2]; exact cell_top rfl rfl
        have q1 : w2.cell? ⟨wr.heap.size, 1, none⟩ = some (.int .u8 0) := by rw [hw2]; exact cell_top rfl rfl
        have q2 : w2.cell? ⟨wr.heap.size, 2, none⟩ = some (.int .u8 0) := by rw [hw2]; exact cell_top rfl rfl
        have q3 : w2.cell? ⟨wr.heap.size, 3, none⟩ = some (.int .u8 0) := by rw [hw2]; exact cell_top rfl rfl
        have q4 : w2.cell? ⟨wr.heap.size, 4, none⟩ = some (.int .u8 85) := by rw [hw2]; exact cell_top rfl rfl
        have qf : ∀ o, w2.frozen? ⟨wr.heap.size, o, none⟩ = false := fun o => by rw [hw2]; exact World.frozen?_alloc_new _ _ _ _
        have hs2 : w2.heap.size = wr.heap.size + 1 := by rw [hw2]; simp
        have hs3 : wr.heap.size < w2.heap.size := by omega
        have hB2 : Below w.heap.size w w2 := by rw [hw2]; exact (hB.alloc hB.size _).drew
        have hsw := hB.size
        clear hw2
        have HS := Lib.hid hs2
        clear hs2
        simp only [List.take_succ_cons, List.take_zero, List.drop_succ_cons, List.drop_zero]
        repeat still_step
        refine wpStill_nil ?_
        have hbb : ∀ (q : Nat) (v : Value), wr.heap.size < (w2.setCell ⟨wr.heap.size, q, none⟩ v).heap.size := fun q v => by simp; omega
        go_wp2_with (first | (go_at_call 53; (with_reducible refine (synd_at (five_at (hbb _ _) (cell_set q0) (cell_off (by decide) q1) (cell_off (by decide) q2) (cell_off (by decide) q3) (cell_off (by decide) q4) ?hv0) (by decide) (by decide)).mono ?_); (case hv0 => decide); rintro e w' ⟨rfl, hb⟩) | (go_at_call 53; (with_reducible refine (synd_at (five_at (hbb _ _) (cell_off (by decide) q0) (cell_set q1) (cell_off (by decide) q2) (cell_off (by decide) q3) (cell_off (by decide) q4) ?hv1) (by decide) (by decide)).mono ?_); (case hv1 => decide); rintro e w' ⟨rfl, hb⟩) | (go_at_call 53; (with_reducible refine (synd_at (five_at (hbb _ _) (cell_off (by decide) q0) (cell_off (by decide) q1) (cell_set q2) (cell_off (by decide) q3) (cell_off (by decide) q4) ?hv2) (by decide) (by decide)).mono ?_); (case hv2 => decide); rintro e w' ⟨rfl, hb⟩) | (go_at_call 53; (with_reducible refine (synd_at (five_at (hbb _ _) (cell_off (by decide) q0) (cell_off (by decide) q1) (cell_off (by decide) q2) (cell_set q3) (cell_off (by decide) q4) ?hv3) (by decide) (by decide)).mono ?_); (case hv3 => decide); rintro e w' ⟨rfl, hb⟩) | (go_at_call 53; (with_reducible refine (synd_at (five_at (hbb _ _) (cell_off (by decide) q0) (cell_off (by decide) q1) (cell_off (by decide) q2) (cell_off (by decide) q3) (cell_set q4) ?hv4) (by decide) (by decide)).mono ?_); (case hv4 => decide); rintro e w' ⟨rfl, hb⟩))
        · go_ret2
          go_light
          have HT2 := HT.out
          simp only [Int.reduceToNat, Nat.reduceSub, Nat.sub_zero] at HT2
          exact ⟨(bit_yes HT2 (by assumption)).symm ▸ rfl, by (repeat' (first | (with_reducible exact Below.refl _ _) | (with_reducible assumption) | (with_reducible refine below_drewN ?_ _) | (with_reducible refine Below.drew ?_) | ((with_reducible refine Below.alloc ?_ ?_ _); (rotate_left; focus (first | omega | (simp; done) | (simp; omega)))) | ((with_reducible refine Below.setCell ?_ ?_ _); (rotate_left; focus (first | omega | (simp; done) | (simp; omega)))) | (with_reducible refine Below.grown ?_ (by assumption) (by first | omega | (simp; omega)) (by simp [Value.ownBlock]; try omega)) | (with_reducible refine below_then ?_ (Aft.below _)) | (with_reducible apply below_then; rotate_left; assumption)))⟩
        · go_roundw
          case rel =>
            go_light
            have HT2 := HT.out
            simp only [Int.reduceToNat, Nat.reduceSub, Nat.sub_zero] at HT2
            exact ⟨_, by decide, by decide, rfl, rfl, rfl, Lib.hid (bit_next HT2 (by assumption)), by (repeat' (first | (with_reducible exact Below.refl _ _) | (with_reducible assumption) | (with_reducible refine below_drewN ?_ _) | (with_reducible refine Below.drew ?_) | ((with_reducible refine Below.alloc ?_ ?_ _); (rotate_left; focus (first | omega | (simp; done) | (simp; omega)))) | ((with_reducible refine Below.setCell ?_ ?_ _); (rotate_left; focus (first | omega | (simp; done) | (simp; omega)))) | (with_reducible refine Below.grown ?_ (by assumption) (by first | omega | (simp; omega)) (by simp [Value.ownBlock]; try omega)) | (with_reducible refine below_then ?_ (Aft.below _)) | (with_reducible apply below_then; rotate_left; assumption)))⟩
          case measure => go_light; simp [intOf]
    · obtain rfl : i = 40 := by omega
      go_wp2
      go_ret2
      go_light
      have HT2 := HT.out
      exact ⟨by unfold bitV; rw [HT2]; rfl, by (repeat' (first | (with_reducible exact Below.refl _ _) | (with_reducible assumption) | (with_reducible refine below_drewN ?_ _) | (with_reducible refine Below.drew ?_) | ((with_reducible refine Below.alloc ?_ ?_ _); (rotate_left; focus (first | omega | (simp; done) | (simp; omega)))) | ((with_reducible refine Below.setCell ?_ ?_ _); (rotate_left; focus (first | omega | (simp; done) | (simp; omega)))) | (with_reducible refine Below.grown ?_ (by assumption) (by first | omega | (simp; omega)) (by simp [Value.ownBlock]; try omega)) | (with_reducible refine below_then ?_ (Aft.below _)) | (with_reducible apply below_then; rotate_left; assumption)))⟩
end Go.Proofs.Ytdlghiekcgplaaa
