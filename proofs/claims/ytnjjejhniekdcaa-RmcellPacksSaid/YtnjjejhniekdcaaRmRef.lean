/- The reference's flags and numbers as bytes, of layer 13. -/
import Derived.Test.YtnjjejhniekdcaaRmQ
import Derived.Test.YtnjjejhniekdcaaRefE
namespace Go.Proofs.Ytnjjejhniekdcaa
set_option linter.unusedVariables false
set_option linter.unusedSimpArgs false
open Go.RowKit
set_option maxRecDepth 100000
set_option maxHeartbeats 4000000
theorem refBit_any (b : Bool) (n : Int) (w : World) : Calls Try.prog 29 #[.bool b, .int .i64 n] w fun e w' => e = .returned (.int .i64 (flg b n)) ∧ w = w' := by
  cases b
  all_goals
    go_enter Try.func29, Try.ntmps29
    go_wp2
    go_ret
    exact ⟨rfl, rfl⟩
/-- a number's bytes ahead of others, one by one. -/
def beF : Nat → Int → List Int → List Int
  | 0, _, acc => acc
  | k + 1, n, acc => beF k (n / 256) (n % 256 :: acc)
theorem beF_two {n : Int} : beF 2 n [] = be2 n := rfl
theorem beF_four {n : Int} : beF 4 n [] = be4 n := by
  have a : n / 256 / 256 / 256 % 256 = n / 16777216 % 256 := by omega
  have b : n / 256 / 256 % 256 = n / 65536 % 256 := by omega
  unfold be4 beF beF beF beF beF
  rw [a, b]
theorem own_none {w : World} {base : Nat} {a : Option Addr} {n c : Nat} {zs : List Int} (h : OwnB w base (.slice a n c) n zs) (ha : a = none) : c = 0 := by
  subst ha
  rcases h.1.2 with ⟨h1, _⟩ | ⟨g, cap, cur, h1, _⟩
  · injection h1
  · cases h1
theorem own_nilB (w : World) (base : Nat) : OwnB w base (.slice none 0 0) 0 [] := ⟨⟨rfl, .inl ⟨rfl, rfl⟩⟩, fun k => by simp⟩
theorem own_lit {w : World} {base n : Nat} {E : TypeId} (zs : List Int) (hE : E = 5) (hb : base ≤ w.heap.size) (hz : allB zs) (hl : zs.length = n) (hn : n ≤ 1000000) : OwnB (w.alloc (.cells (u8s zs).toArray E)) base (.slice (some ⟨w.heap.size, 0, none⟩) n n) n zs := by
  subst hE
  refine ⟨?_, fun k => by have := byte_B hz k; exact this⟩
  have := own_made (w := w) (base := base) (E := 5) (size := 1) (n := n) (u8s zs).toArray hb (by unfold maxLen; omega) (by simp [hl])
  simpa using this
theorem refBytes_m (n : Int) (m : Nat) (w : World) (n0 : 0 ≤ n) (n1 : n < 4294967296) (hm : m ≤ 8) (M : Int) (hM : M = (m : Int)) :
    Calls Try.prog 30 #[.int .i64 n, .int .i64 M] w fun e w' => ∃ a c, e = .returned (.slice a m c) ∧ BytesAt w' a m (beF m n []) ∧ (a = none → c = 0) ∧ Below w.heap.size w w' := by
  subst hM
  obtain ⟨zs0, hz0⟩ : ∃ zs0, beF m n [] = zs0 := ⟨_, rfl⟩
  rw [hz0]
  have HZ := Lib.hid hz0
  clear hz0
  go_enter Try.func30, Try.ntmps30
  go_wp2
  go_loopw [0, 5, 6] (fun s0 s5 s6 wr => ∃ (k : Nat) (q : Int) (zs : List Int), k ≤ m ∧ s6 = .int .i64 k ∧ s0 = .int .i64 q ∧ 0 ≤ q ∧ q < 4294967296 ∧ OwnB wr w.heap.size s5 k zs ∧ Hid (beF (m - k) q zs = zs0) ∧ Below w.heap.size w wr) (fun s0 s5 s6 wr => m - (intOf s6).toNat)
  case atStart => exact ⟨0, n, [], by omega, rfl, rfl, n0, n1, own_nilB _ _, HZ, Below.refl _ _⟩
  case round =>
    obtain ⟨k, q, zs, hk, rfl, rfl, q0, q1, hO, HB, hBw⟩ := hrel
    obtain ⟨a, c, rfl, hc1, hc2, hA, hF, hN⟩ := hO.at (by omega)
    have hnn := own_none hO
    have hsz := hBw.size
    by_cases hlt : k < m
    · have hoL := own_lit (n := 1) (w := wr) (base := w.heap.size) (E := 5) [q % 256] rfl hsz (by intro z hz; simp at hz; subst hz; unfold isB; omega) rfl (by omega)
      have hA1 := hA.below ((Below.refl wr.heap.size wr).alloc (Nat.le_refl _) (.cells (u8s [q % 256]).toArray 5))
      have hB1 := hBw.alloc hsz (.cells (u8s [q % 256]).toArray 5)
      go_wp2_with (at_builtin; refine wpList_append_bytes rfl _ _ rfl (v := .slice (some ⟨wr.heap.size, 0, none⟩) 1 1) (n := 1) (xs := [q % 256]) (ad := a) (m := k) (c := c) (ys := zs) (base := w.heap.size) rfl hoL rfl hA1 hnn ?hb ?hbase ?_; (case hb => omega); (case hbase => (simp; omega)); intro v' w' hO' hb')
      go_roundw
      case rel =>
        refine ⟨k + 1, q / 256, q % 256 :: zs, by omega, by go_num, rfl, by omega, by omega, ?_, ?_, ?_⟩
        · rw [Nat.add_comm]; exact hO'
        · have := HB.out
          rw [show m - k = (m - (k + 1)) + 1 by omega] at this
          exact this
        · exact hB1.trans hb'
      case measure => simp [intOf]; omega
    · obtain rfl : m = k := by omega
      have hz := HB.out
      rw [Nat.sub_self] at hz
      go_wp2
      go_ret
      refine ⟨a, c, rfl, ?_, hnn, hBw⟩
      rw [← hz]; exact hA
theorem refBytes2 (n : Int) (w : World) (n0 : 0 ≤ n) (n1 : n < 4294967296) :
    Calls Try.prog 30 #[.int .i64 n, .int .i64 2] w fun e w' => ∃ a c, e = .returned (.slice a 2 c) ∧ BytesAt w' a 2 (be2 n) ∧ (a = none → c = 0) ∧ Below w.heap.size w w' :=
  refBytes_m n 2 w n0 n1 (by omega) 2 rfl
theorem refBytes4 (n : Int) (w : World) (n0 : 0 ≤ n) (n1 : n < 4294967296) :
    Calls Try.prog 30 #[.int .i64 n, .int .i64 4] w fun e w' => ∃ a c, e = .returned (.slice a 4 c) ∧ BytesAt w' a 4 (be4 n) ∧ (a = none → c = 0) ∧ Below w.heap.size w w' := by
  rw [← beF_four]; exact refBytes_m n 4 w n0 n1 (by omega) 4 rfl
theorem refNum2 {w : World} {a : Option Addr} {c : Nat} {x y : Int} (h : BytesAt w a 2 [x, y]) :
    Calls Try.prog 34 #[.slice a 2 c] w fun e w' => e = .returned (.int .i64 (x * 256 + y)) ∧ w = w' := by
  obtain ⟨b, off, rfl, hb, hc⟩ := h.cells (by omega)
  have k0 := hc 0 (by omega)
  have k1 := hc 1 (by omega)
  have b0 := h.byte 0
  have b1 := h.byte 1
  simp only [List.getElem?_cons_zero, List.getElem?_cons_succ, Option.getD_some, Nat.add_zero] at k0 k1 b0 b1
  clear h hc
  go_enter Try.func34, Try.ntmps34
  go_wp2
  refine wp_loop_rounds 3 ?_
  rw [rounds_succ]
  go_wp2
  rw [rounds_succ]
  go_wp2
  rw [rounds_succ]
  go_wp2
  go_ret
  exact ⟨ret_int (by go_light; omega), rfl⟩
theorem refNum4 {w : World} {a : Option Addr} {c : Nat} {x y z u : Int} (h : BytesAt w a 4 [x, y, z, u]) :
    Calls Try.prog 34 #[.slice a 4 c] w fun e w' => e = .returned (.int .i64 (((x * 256 + y) * 256 + z) * 256 + u)) ∧ w = w' := by
  obtain ⟨b, off, rfl, hb, hc⟩ := h.cells (by omega)
  have k0 := hc 0 (by omega)
  have k1 := hc 1 (by omega)
  have k2 := hc 2 (by omega)
  have k3 := hc 3 (by omega)
  have b0 := h.byte 0
  have b1 := h.byte 1
  have b2 := h.byte 2
  have b3 := h.byte 3
  simp only [List.getElem?_cons_zero, List.getElem?_cons_succ, Option.getD_some, Nat.add_zero] at k0 k1 k2 k3 b0 b1 b2 b3
  clear h hc
  go_enter Try.func34, Try.ntmps34
  go_wp2
  refine wp_loop_rounds 5 ?_
  rw [rounds_succ]
  go_wp2
  rw [rounds_succ]
  go_wp2
  rw [rounds_succ]
  go_wp2
  rw [rounds_succ]
  go_wp2
  rw [rounds_succ]
  go_wp2
  go_ret
  exact ⟨ret_int (by go_light; omega), rfl⟩
end Go.Proofs.Ytnjjejhniekdcaa
