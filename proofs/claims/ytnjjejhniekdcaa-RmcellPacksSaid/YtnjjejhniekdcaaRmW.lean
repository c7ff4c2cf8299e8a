/- The walks of rmcell's small functions: put, get, right, set, fixed. -/
import Derived.Test.YtnjjejhniekdcaaRmP
import Derived.Test.YtnjjejhniekdcaaRateW
namespace Go.Proofs.Ytnjjejhniekdcaa
set_option linter.unusedVariables false
set_option linter.unusedSimpArgs false
open Go.RowKit
set_option maxRecDepth 100000
set_option maxHeartbeats 4000000
/-- a block of bytes of ours, that may be written. -/
structure BufAt (w : World) (g : Nat) (zs : List Int) : Prop where
  bytes : BytesAt w (some ⟨g, 0, none⟩) 48 zs
  free : ∀ o, w.frozen? ⟨g, o, none⟩ = false
theorem BufAt.lt {w : World} {g : Nat} {zs : List Int} (h : BufAt w g zs) : g < w.heap.size := by
  obtain ⟨b, off, e, hb, _⟩ := h.bytes.cells (by omega)
  injection e with e; injection e with e1 e2; omega
theorem BufAt.set {w : World} {g q : Nat} {zs : List Int} {x : Int} (h : BufAt w g zs) (hq : q < 48) (x0 : 0 ≤ x) (x1 : x < 256) : BufAt (w.setCell ⟨g, q, none⟩ (.int .u8 x)) g (zs.set q x) :=
  ⟨h.bytes.set hq x0 x1, fun o => by rw [World.frozen?_setCell]; exact h.free o⟩
theorem BufAt.below {w w' : World} {g : Nat} {zs : List Int} (h : BufAt w g zs) (hb : Below w.heap.size w w') : BufAt w' g zs :=
  ⟨h.bytes.below hb, fun o => by rw [hb.frozen (p := ⟨g, o, none⟩) h.lt]; exact h.free o⟩
theorem put2_any {w : World} {g off c : Nat} {zs : List Int} {n : Int} (h : BufAt w g zs) (ho : off + 2 ≤ 48) (n0 : 0 ≤ n) (n1 : n < 4294967296) :
    Calls Try.prog 26 #[.slice (some ⟨g, off, none⟩) 2 c, .int .u32 n] w fun e w' => e = .returned (.tuple #[]) ∧ w' = (w.setCell ⟨g, off + 1, none⟩ (.int .u8 (n % 256))).setCell ⟨g, off, none⟩ (.int .u8 (n / 256 % 256)) := by
  have k0 := h.bytes.cellAt (k := off) (by omega)
  have k1 := h.bytes.cellAt (k := off + 1) (by omega)
  rw [Nat.zero_add] at k0 k1
  have f0 := h.free off
  have f1 := h.free (off + 1)
  clear h
  go_enter Try.func26, Try.ntmps26
  go_wp2
  refine wp_loop_rounds 3 ?_
  rw [rounds_succ]
  go_wp2
  rw [rounds_succ]
  go_wp2
  rw [rounds_succ]
  go_wp2
  exact bodyPost_end (results_none rfl _ _ _) rfl ⟨rfl, rfl⟩
theorem put4_any {w : World} {g off c : Nat} {zs : List Int} {n : Int} (h : BufAt w g zs) (ho : off + 4 ≤ 48) (n0 : 0 ≤ n) (n1 : n < 4294967296) :
    Calls Try.prog 26 #[.slice (some ⟨g, off, none⟩) 4 c, .int .u32 n] w fun e w' => e = .returned (.tuple #[]) ∧ w' = (((w.setCell ⟨g, off + 3, none⟩ (.int .u8 (n % 256))).setCell ⟨g, off + 2, none⟩ (.int .u8 (n / 256 % 256))).setCell ⟨g, off + 1, none⟩ (.int .u8 (n / 65536 % 256))).setCell ⟨g, off, none⟩ (.int .u8 (n / 16777216 % 256)) := by
  have k0 := h.bytes.cellAt (k := off) (by omega)
  have k1 := h.bytes.cellAt (k := off + 1) (by omega)
  have k2 := h.bytes.cellAt (k := off + 2) (by omega)
  have k3 := h.bytes.cellAt (k := off + 3) (by omega)
  rw [Nat.zero_add] at k0 k1 k2 k3
  have f0 := h.free off
  have f1 := h.free (off + 1)
  have f2 := h.free (off + 2)
  have f3 := h.free (off + 3)
  clear h
  go_enter Try.func26, Try.ntmps26
  go_wp2
  refine wp_loop_rounds 5 ?_
  rw [rounds_succ]
  go_wp2
  rw [rounds_succ]
  go_wp2
  rw [rounds_succ]
  go_wp2
  rw [rounds_succ]
  go_wp2
  rw [rounds_succ]
  go_wp2
  exact bodyPost_end (results_none rfl _ _ _) rfl ⟨rfl, by rw [show n / 16777216 % 256 = n / 16777216 by omega]⟩
theorem get2_any {w : World} {a : Option Addr} {c : Nat} {x y : Int} (h : BytesAt w a 2 [x, y]) :
    Calls Try.prog 33 #[.slice a 2 c] w fun e w' => e = .returned (.int .u32 (x * 256 + y)) ∧ w = w' := by
  obtain ⟨b, off, rfl, hb, hc⟩ := h.cells (by omega)
  have k0 := hc 0 (by omega)
  have k1 := hc 1 (by omega)
  have b0 := h.byte 0
  have b1 := h.byte 1
  simp only [List.getElem?_cons_zero, List.getElem?_cons_succ, Option.getD_some, Nat.add_zero] at k0 k1 b0 b1
  clear h hc
  go_enter Try.func33, Try.ntmps33
  go_wp2
  refine wp_loop_rounds 3 ?_
  rw [rounds_succ]
  go_wp2
  rw [rounds_succ]
  go_wp2
  rw [rounds_succ]
  go_wp2
  go_ret
  refine ⟨ret_int ?_, rfl⟩
  go_light
  rw [u32_or_zero b0.1 b0.2, u32_or_byte (by omega) (by omega) b1.1 b1.2]
theorem get4_any {w : World} {a : Option Addr} {c : Nat} {x y z u : Int} (h : BytesAt w a 4 [x, y, z, u]) :
    Calls Try.prog 33 #[.slice a 4 c] w fun e w' => e = .returned (.int .u32 (((x * 256 + y) * 256 + z) * 256 + u)) ∧ w = w' := by
  obtain ⟨b, off, rfl, hb, hc⟩ := h.cells (by omega)
  have k0 := hc 0 (by omega)
  have k1 := hc 1 (by omega)
  have k2 := hc 2 (by omega)
  have k3 := hc 3 (by omega)
  have b0 := h.byte 0
  have b1 := h.byte 1
  have b2 := h.byte 2
  have b3 := h.byte 3
  simp only [List.getElem?_cons_zero, List.getElem?_cons_succ, Option.getD_some, Nat.add_zero] at k0 k1 k2 k3 b0 b1 b2 b3
  clear h hc
  go_enter Try.func33, Try.ntmps33
  go_wp2
  refine wp_loop_rounds 5 ?_
  rw [rounds_succ]
  go_wp2
  rw [rounds_succ]
  go_wp2
  rw [rounds_succ]
  go_wp2
  rw [rounds_succ]
  go_wp2
  rw [rounds_succ]
  go_wp2
  go_ret
  refine ⟨ret_int ?_, rfl⟩
  go_light
  rw [u32_or_zero b0.1 b0.2, u32_or_byte (by omega) (by omega) b1.1 b1.2, u32_or_byte (by omega) (by omega) b2.1 b2.2, u32_or_byte (by omega) (by omega) b3.1 b3.2]
/-- what a cell tells, in memory. -/
structure RmAt (w : World) (b : Nat) (bk nr ci ni ra : Bool) (er cc mc ql sn : Int) : Prop where
  c0 : w.cell? ⟨b, 0, none⟩ = some (.bool bk)
  c1 : w.cell? ⟨b, 1, none⟩ = some (.bool nr)
  c2 : w.cell? ⟨b, 2, none⟩ = some (.bool ci)
  c3 : w.cell? ⟨b, 3, none⟩ = some (.bool ni)
  c4 : w.cell? ⟨b, 4, none⟩ = some (.bool ra)
  c5 : w.cell? ⟨b, 5, none⟩ = some (.int .u16 er)
  c6 : w.cell? ⟨b, 6, none⟩ = some (.int .u16 cc)
  c7 : w.cell? ⟨b, 7, none⟩ = some (.int .u16 mc)
  c8 : w.cell? ⟨b, 8, none⟩ = some (.int .u32 ql)
  c9 : w.cell? ⟨b, 9, none⟩ = some (.int .u32 sn)
theorem right_at {w : World} {b : Nat} {bk nr ci ni ra : Bool} {er cc mc ql sn : Int} (h : RmAt w b bk nr ci ni ra er cc mc ql sn) (e0 : 0 ≤ er) (e1 : er < 65536) (c0 : 0 ≤ cc) (c1 : cc < 65536) (m0 : 0 ≤ mc) (m1 : mc < 65536) {R : Bool} (hR : (rgtZ er && rgtZ cc && rgtZ mc) = R) :
    Calls Try.prog 24 #[.pointer (some ⟨b, 0, none⟩)] w fun e w' => e = .returned (.bool R) ∧ w = w' := by
  subst hR
  obtain ⟨h0, h1, h2, h3, h4, h5, h6, h7, h8, h9⟩ := h
  obtain ⟨r1, g1⟩ : ∃ r, rgtZ er = r := ⟨_, rfl⟩
  obtain ⟨r2, g2⟩ : ∃ r, rgtZ cc = r := ⟨_, rfl⟩
  obtain ⟨r3, g3⟩ : ∃ r, rgtZ mc = r := ⟨_, rfl⟩
  rw [g1, g2, g3]
  have G1 := Lib.hid g1
  have G2 := Lib.hid g2
  have G3 := Lib.hid g3
  clear g1 g2 g3
  cases r1 <;> cases r2
  all_goals
    go_enter Try.func24, Try.ntmps24
    go_wp2_with (first | (go_at_call 19; (with_reducible refine (right_int er _ e0 e1).mono ?_); rw [G1.out]; rintro e w' ⟨rfl, rfl⟩) | (go_at_call 19; (with_reducible refine (right_int cc _ c0 c1).mono ?_); rw [G2.out]; rintro e w' ⟨rfl, rfl⟩) | (go_at_call 19; (with_reducible refine (right_int mc _ m0 m1).mono ?_); rw [G3.out]; rintro e w' ⟨rfl, rfl⟩))
    go_ret
    exact ⟨ret_bool (by simp), rfl⟩
theorem und56 : ∃ d, Try.prog.underlying 56 = some d ∧ d.isRow = true := ⟨_, by simp [go_sem]; rfl, rfl⟩
theorem siz56 : (Try.prog.info? 56).map (·.size) = some 5 := by kernel_rfl
theorem set_at (b : Nat) (w : World) (hb : b < w.heap.size) :
    Calls Try.prog 25 #[.pointer (some ⟨b, 0, none⟩)] w fun e w' => e = .returned (.agg #[.pointer (some ⟨b, 0, none⟩), .pointer (some ⟨b, 1, none⟩), .pointer (some ⟨b, 2, none⟩), .pointer (some ⟨b, 3, none⟩), .pointer (some ⟨b, 4, none⟩)]) ∧ Below w.heap.size w w' := by
  have hbd : ∀ w, (Instr.build 56 #[(0, .pointer (some ⟨b, 0, none⟩)), (1, .pointer (some ⟨b, 1, none⟩)), (2, .pointer (some ⟨b, 2, none⟩)), (3, .pointer (some ⟨b, 3, none⟩)), (4, .pointer (some ⟨b, 4, none⟩))]).run Try.prog w = .ok (.agg #[.pointer (some ⟨b, 0, none⟩), .pointer (some ⟨b, 1, none⟩), .pointer (some ⟨b, 2, none⟩), .pointer (some ⟨b, 3, none⟩), .pointer (some ⟨b, 4, none⟩)]) w := fun w => run_build w _ _ _ (by kernel_rfl)
  go_enter Try.func25, Try.ntmps25
  go_wp2
  refine region_tail_b 16 (by kernel_rfl) (by kernel_rfl) rfl ?_
  simp only [List.take_succ_cons, List.take_zero, List.drop_succ_cons, List.drop_zero]
  (repeat (go_big_quiet_step (fail)))
  refine wpQuiet_nil ?_
  go_wp2
  refine bodyPost_ret (results_c1 rfl _ _ rfl ?_) rfl ⟨rfl, by (repeat' (first | (with_reducible exact Below.refl _ _) | (with_reducible assumption) | (with_reducible refine below_drewN ?_ _) | (with_reducible refine Below.drew ?_) | ((with_reducible refine Below.alloc ?_ ?_ _); (rotate_left; focus (first | omega | (simp; done) | (simp; omega)))) | ((with_reducible refine Below.setCell ?_ ?_ _); (rotate_left; focus (first | omega | (simp; done) | (simp; omega)))) | (with_reducible refine Below.grown ?_ (by assumption) (by first | omega | (simp; omega)) (by simp [Value.ownBlock]; try omega)) | (with_reducible refine below_then ?_ (Aft.below _)) | (with_reducible apply below_then; rotate_left; assumption)))⟩
  obtain ⟨d, h1, h2⟩ := und56
  exact run_loadVar_mid _ _ 0 _ [.pointer (some ⟨b, 0, none⟩), .pointer (some ⟨b, 1, none⟩), .pointer (some ⟨b, 2, none⟩), .pointer (some ⟨b, 3, none⟩), .pointer (some ⟨b, 4, none⟩)] d (fun j v hv => cell_drew (cell_top rfl (by simpa using hv))) h1 h2 (by rw [siz56]; rfl)
theorem fixed_any (zs : List Int) (X : Array Value) (w : World) (hX : Hid (X = (u8s zs).toArray)) (hl : Hid (zs.length = 48)) (hb : Hid (allB zs)) {R : Bool} (hR : Hid (fixZ zs = R)) :
    Calls Try.prog 32 #[.agg X] w fun e w' => e = .returned (.bool R) ∧ Below w.heap.size w w' := by
  have hsz : X.size = 48 := sizeP hX hl.out
  go_enter Try.func32, Try.ntmps32
  go_wp2
  obtain ⟨W, hW⟩ : ∃ W, W = w.alloc (.cells X 26) := ⟨_, rfl⟩
  have P0 : BytesAt W (some ⟨w.heap.size, 0, none⟩) 48 zs := by rw [hW]; exact bytes_block hX rfl hl.out hb.out
  have B0 : Below w.heap.size w W := by rw [hW]; (repeat' (first | (with_reducible exact Below.refl _ _) | (with_reducible assumption) | (with_reducible refine below_drewN ?_ _) | (with_reducible refine Below.drew ?_) | ((with_reducible refine Below.alloc ?_ ?_ _); (rotate_left; focus (first | omega | (simp; done) | (simp; omega)))) | ((with_reducible refine Below.setCell ?_ ?_ _); (rotate_left; focus (first | omega | (simp; done) | (simp; omega)))) | (with_reducible refine Below.grown ?_ (by assumption) (by first | omega | (simp; omega)) (by simp [Value.ownBlock]; try omega)) | (with_reducible refine below_then ?_ (Aft.below _)) | (with_reducible apply below_then; rotate_left; assumption)))
  rw [← hW]
  clear hW
  go_loop [7] (fun s7 => ∃ k : Nat, k ≤ 30 ∧ allF zs k = true ∧ s7 = .int .i64 k) (fun s7 => 30 - (intOf s7).toNat)
  case atStart => exact ⟨0, by omega, rfl, rfl⟩
  case round =>
    obtain ⟨k, hk, hf, rfl⟩ := hrel
    have HF := Lib.hid hf
    clear hf
    by_cases hlt : k < 30
    · have ck := P0.cellAt (k := 16 + k) (by omega)
      rw [Nat.zero_add] at ck
      have hkb := P0.byte (16 + k)
      obtain ⟨z, hz⟩ : ∃ z, zs[16 + k]?.getD 0 = z := ⟨_, rfl⟩
      rw [hz] at ck hkb
      have HZ := Lib.hid hz
      clear hz
      by_cases he : z = 106
      · subst he
        go_wp2
        go_round
        case rel => exact ⟨k + 1, by omega, by unfold allF; rw [HF.out, HZ.out]; rfl, by go_num⟩
        case measure => simp [intOf]; omega
      · have hne : (z == 106) = false := by simpa using he
        have hne2 : (z != 106) = true := by simpa using he
        go_wp2
        go_ret
        refine ⟨ret_bool ?_, B0⟩
        rw [← hR.out]
        unfold fixZ
        rw [allF_no (k := k) hlt (by rw [HZ.out]; exact he)]
        rfl
    · obtain rfl : k = 30 := by omega
      have c1 := P0.cellAt (k := 1) (by omega)
      have c46 := P0.cellAt (k := 46) (by omega)
      rw [Nat.zero_add] at c1 c46
      have b1 := P0.byte 1
      have b46 := P0.byte 46
      have HR : Hid ((decide (zs[1]?.getD 0 % 8 = 0) && decide (zs[46]?.getD 0 / 4 = 0)) = R) := by rw [← hR.out]; unfold fixZ; rw [HF.out]; rfl
      obtain ⟨u, hu⟩ : ∃ u, zs[1]?.getD 0 = u := ⟨_, rfl⟩
      obtain ⟨v, hv⟩ : ∃ v, zs[46]?.getD 0 = v := ⟨_, rfl⟩
      rw [hu] at c1 b1 HR
      rw [hv] at c46 b46 HR
      clear hu hv
      have hm := u8_and252 v b46.1 b46.2
      by_cases h1 : u % 8 = 0
      · go_wp2
        go_ret
        refine ⟨ret_bool ?_, B0⟩
        rw [← HR.out]
        simp [h1]
      · have h2 : (u % 8 == 0) = false := by simpa using h1
        go_wp2
        go_ret
        refine ⟨ret_bool ?_, B0⟩
        rw [← HR.out]
        simp [h1]
end Go.Proofs.Ytnjjejhniekdcaa
