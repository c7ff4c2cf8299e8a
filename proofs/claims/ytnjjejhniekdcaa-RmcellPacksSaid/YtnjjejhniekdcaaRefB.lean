/- The walk of the reference's Bits. -/
import Derived.Test.YtnjjejhniekdcaaRef01
import Derived.Test.YtnjjejhniekdcaaInts
namespace Go.Proofs.Ytnjjejhniekdcaa
set_option linter.unusedVariables false
set_option linter.unusedSimpArgs false
open Go.RowKit
set_option maxRecDepth 100000
set_option maxHeartbeats 4000000
/-- bits as numbers. -/
def bitI (b : Bool) : Int := if b then 1 else 0
def bitsI (zs : List Int) : List Int := (bitsL zs).map bitI
theorem bitsI_len (zs : List Int) : (bitsI zs).length = 8 * zs.length := by unfold bitsI; rw [List.length_map, bitsL_len]
theorem bitI_at (z : Int) (j : Nat) : bitI (bitAt z j) = z / 2 ^ (7 - j) % 2 := by
  unfold bitI bitAt
  have h : z / 2 ^ (7 - j) % 2 = 0 ∨ z / 2 ^ (7 - j) % 2 = 1 := by omega
  rcases h with h | h <;> simp [h]
theorem bitsI_succ (zs : List Int) (k : Nat) (hk : k < zs.length) (z : Int) (hz : zs[k]?.getD 0 = z) :
    bitsI (zs.take (k + 1)) = bitsI (zs.take k) ++ [z / 128 % 2] ++ [z / 64 % 2] ++ [z / 32 % 2] ++ [z / 16 % 2] ++ [z / 8 % 2] ++ [z / 4 % 2] ++ [z / 2 % 2] ++ [z % 2] := by
  have e : zs[k] = z := by rw [List.getElem?_eq_getElem hk] at hz; simpa using hz
  rw [List.take_succ_eq_append_getElem hk, e]
  unfold bitsI bitsL
  rw [List.flatMap_append, List.map_append]
  simp only [List.append_assoc]
  congr 1
  simp only [List.flatMap_cons, List.flatMap_nil, List.append_nil, bit8, List.map_map, Function.comp_def, bitI_at]
  simp [List.range_succ]
theorem refBits_any {w : World} {a : Option Addr} {len cap : Nat} {zs : List Int} (h : BytesAt w a len zs) (hlen : len ≤ 1000000) :
    Calls Try.prog 38 #[.slice a len cap] w fun e w' => ∃ v, e = .returned v ∧ OwnI w' w.heap.size v (8 * len) (bitsI zs) ∧ Below w.heap.size w w' := by
  go_enter Try.func38, Try.ntmps38
  go_wp2
  go_loopw [3, 4, 5, 6, 9] (fun vv s4 s5 s6 s9 wr => ∃ k : Nat, k ≤ len ∧ s9 = .int .i64 k ∧ OwnI wr w.heap.size vv (8 * k) (bitsI (zs.take k)) ∧ Below w.heap.size w wr) (fun vv s4 s5 s6 s9 wr => len - (intOf s9).toNat)
  case atStart => exact ⟨0, by omega, rfl, OwnI.nil w _, Below.refl _ _⟩
  case round =>
    obtain ⟨k, hk, rfl, hown, hBw⟩ := hrel
    by_cases hlt : k < len
    · obtain ⟨b, off, rfl, hb, hc⟩ := h.cells (by omega)
      have hck : wr.cell? ⟨b, off + k, none⟩ = some (.int .u8 (zs[k]?.getD 0)) := (hBw.cell (p := ⟨b, off + k, none⟩) hb).trans (hc k hlt)
      have hzk := h.byte k
      obtain ⟨z, hz0⟩ : ∃ z, zs[k]?.getD 0 = z := ⟨_, rfl⟩
      rw [hz0] at hck hzk
      have HZ := Lib.hid hz0
      clear hz0 hc
      obtain ⟨z0, z1⟩ := hzk
      go_wp2_with fail
      refine wp_loop_rounds 9 ?_
      rw [rounds_succ]
      go_wp2_with (at_builtin; refine wpList_append_int rfl _ _ rfl (v := u3) rfl (hown.alloc _) rfl (cell_top rfl rfl) ?hc2 ?hc3 ?_; (case hc2 => omega); (case hc3 => (have := hBw.size; simp; omega)); intro vv ww hown hbl; have hBw := Below.trans (Below.alloc hBw hBw.size _) hbl)
      rw [rounds_succ]
      go_wp2_with (at_builtin; refine wpList_append_int rfl _ _ rfl (v := vv) rfl (hown.alloc _) rfl (cell_top rfl rfl) ?hc2 ?hc3 ?_; (case hc2 => omega); (case hc3 => (have := hBw.size; simp; omega)); intro vv ww hown hbl; have hBw := Below.trans (Below.alloc hBw hBw.size _) hbl)
      rw [rounds_succ]
      go_wp2_with (at_builtin; refine wpList_append_int rfl _ _ rfl (v := vv) rfl (hown.alloc _) rfl (cell_top rfl rfl) ?hc2 ?hc3 ?_; (case hc2 => omega); (case hc3 => (have := hBw.size; simp; omega)); intro vv ww hown hbl; have hBw := Below.trans (Below.alloc hBw hBw.size _) hbl)
      rw [rounds_succ]
      go_wp2_with (at_builtin; refine wpList_append_int rfl _ _ rfl (v := vv) rfl (hown.alloc _) rfl (cell_top rfl rfl) ?hc2 ?hc3 ?_; (case hc2 => omega); (case hc3 => (have := hBw.size; simp; omega)); intro vv ww hown hbl; have hBw := Below.trans (Below.alloc hBw hBw.size _) hbl)
      rw [rounds_succ]
      go_wp2_with (at_builtin; refine wpList_append_int rfl _ _ rfl (v := vv) rfl (hown.alloc _) rfl (cell_top rfl rfl) ?hc2 ?hc3 ?_; (case hc2 => omega); (case hc3 => (have := hBw.size; simp; omega)); intro vv ww hown hbl; have hBw := Below.trans (Below.alloc hBw hBw.size _) hbl)
      rw [rounds_succ]
      go_wp2_with (at_builtin; refine wpList_append_int rfl _ _ rfl (v := vv) rfl (hown.alloc _) rfl (cell_top rfl rfl) ?hc2 ?hc3 ?_; (case hc2 => omega); (case hc3 => (have := hBw.size; simp; omega)); intro vv ww hown hbl; have hBw := Below.trans (Below.alloc hBw hBw.size _) hbl)
      rw [rounds_succ]
      go_wp2_with (at_builtin; refine wpList_append_int rfl _ _ rfl (v := vv) rfl (hown.alloc _) rfl (cell_top rfl rfl) ?hc2 ?hc3 ?_; (case hc2 => omega); (case hc3 => (have := hBw.size; simp; omega)); intro vv ww hown hbl; have hBw := Below.trans (Below.alloc hBw hBw.size _) hbl)
      rw [rounds_succ]
      go_wp2_with (at_builtin; refine wpList_append_int rfl _ _ rfl (v := vv) rfl (hown.alloc _) rfl (cell_top rfl rfl) ?hc2 ?hc3 ?_; (case hc2 => omega); (case hc3 => (have := hBw.size; simp; omega)); intro vv ww hown hbl; have hBw := Below.trans (Below.alloc hBw hBw.size _) hbl)
      rw [rounds_succ]
      go_wp2
      go_roundw
      case rel =>
        go_light
        refine ⟨k + 1, by omega, by go_num, ?_, hBw⟩
        rw [bitsI_succ zs k (by rw [h.length]; exact hlt) z HZ.out]
        simpa [Nat.mul_add, Nat.add_assoc] using hown
      case measure => go_light; simp [intOf]; omega
    · obtain rfl : k = len := by omega
      have hl := h.length
      go_wp2
      go_ret
      go_light
      refine ⟨_, rfl, ?_, hBw⟩
      rw [List.take_of_length_le (by omega)] at hown
      exact hown
end Go.Proofs.Ytnjjejhniekdcaa
