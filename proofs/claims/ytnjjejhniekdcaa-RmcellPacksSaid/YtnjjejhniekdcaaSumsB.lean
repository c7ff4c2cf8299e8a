/- The walk of sums.Bit: which single bit a difference tells. -/
import Derived.Test.YtnjjejhniekdcaaSumsE
import Derived.StillTailTactics
import Derived.IntWalk
namespace Go.Proofs.Ytnjjejhniekdcaa
set_option linter.unusedVariables false
set_option linter.unusedSimpArgs false
open Go.RowKit
set_option maxRecDepth 100000
set_option maxHeartbeats 8000000
theorem region_tail {P : Program} {id : Nat} {Q : Exit → Act → World → Prop} {a : Act} {w : World} {l : List Oper} (n : Nat) (hm : P.follows .mixedOrders = true) (hB : Region.lexTailB .any l.toArray n = true)
    (h : wpStill P l.toArray w.drew (fun a' => wpList P l.toArray Q (l.drop n) a' w.drew) (l.take n) a) : (Code.region id l.toArray true).wp P Q a w := wp_region_still_tail n hm hB h
/-- bytes with a bit turned over. -/
def flipZ (zs : List Int) (k : Nat) : List Int := zs.set (k / 8) (bits .xor .u8 (zs[k / 8]?.getD 0) (128 / 2 ^ (k % 8)))
def tabZ (k : Nat) : Int := synd (flipZ [0, 0, 0, 0, 85] k)
theorem five_at {w : World} {b : Nat} {x y z u v : Int} (hb : b < w.heap.size) (h0 : w.cell? ⟨b, 0, none⟩ = some (.int .u8 x)) (h1 : w.cell? ⟨b, 1, none⟩ = some (.int .u8 y)) (h2 : w.cell? ⟨b, 2, none⟩ = some (.int .u8 z)) (h3 : w.cell? ⟨b, 3, none⟩ = some (.int .u8 u)) (h4 : w.cell? ⟨b, 4, none⟩ = some (.int .u8 v))
    (hv : ∀ q ∈ [x, y, z, u, v], 0 ≤ q ∧ q < 256) : BytesAt w (some ⟨b, 0, none⟩) 5 [x, y, z, u, v] :=
  ⟨rfl, by omega, fun k => by
    match k with
    | 0 => exact hv x (by simp)
    | 1 => exact hv y (by simp)
    | 2 => exact hv z (by simp)
    | 3 => exact hv u (by simp)
    | 4 => exact hv v (by simp)
    | k + 5 => simp,
   fun _ => ⟨b, 0, rfl, hb, fun k hk => by
    match k, hk with
    | 0, _ => exact h0
    | 1, _ => exact h1
    | 2, _ => exact h2
    | 3, _ => exact h3
    | 4, _ => exact h4⟩⟩
/-- the first bit that tells a difference, from bit k on. -/
def findZ (s : Int) : Nat → Nat → Option Nat
  | 0, _ => none
  | n + 1, k => if tabZ k = s then some k else findZ s n (k + 1)
def bitOf (s : Int) : Option Nat := findZ s 40 0
attribute [local irreducible] synd
/-- what Bit hands back. -/
def bitV (s : Int) : Value := match bitOf s with
  | some k => .tuple #[.int .i64 k, .bool true]
  | none => .tuple #[.int .i64 0, .bool false]
theorem bit_yes {s : Int} {k n : Nat} (h : bitOf s = findZ s (n + 1) k) (ht : (tabZ k == s) = true) : bitV s = .tuple #[.int .i64 k, .bool true] := by
  unfold bitV; rw [h]; unfold findZ; rw [if_pos (eq_of_beq ht)]
theorem bit_next {s : Int} {k n : Nat} (h : bitOf s = findZ s (n + 1) k) (ht : (tabZ k == s) = false) : bitOf s = findZ s n (k + 1) := by
  rw [h]; show (if tabZ k = s then some k else findZ s n (k + 1)) = _; rw [if_neg (by simpa using ht)]
end Go.Proofs.Ytnjjejhniekdcaa
