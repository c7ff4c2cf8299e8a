/- The walk of rmcell.Pack. -/
import Derived.Test.YtnjjejhniekdcaaRmW
namespace Go.Proofs.Ytnjjejhniekdcaa
set_option linter.unusedVariables false
set_option linter.unusedSimpArgs false
open Go.RowKit
set_option maxRecDepth 100000
set_option maxHeartbeats 4000000
theorem BytesAt.chg8 {w w' : World} {a : Option Addr} {n p : Nat} {zs : List Int} (h : BytesAt w a n zs) (hc : Chg p w w') (hn : ∀ b off, a = some ⟨b, off, none⟩ → b ≠ p) : BytesAt w' a n zs := h.chgU hc hn
theorem BufAt.chg {w w' : World} {g p : Nat} {zs : List Int} (h : BufAt w g zs) (hc : Chg p w w') (hn : g ≠ p) : BufAt w' g zs :=
  ⟨h.bytes.chgU hc (fun b off e => by injection e with e; injection e with e1 e2; omega), fun o => by
    rw [World.frozen?_of_block (w := w) (hc.block g h.lt hn)]; exact h.free o⟩
theorem BufAt.drew {w : World} {g : Nat} {zs : List Int} (h : BufAt w g zs) : BufAt w.drew g zs := h.below (Below.drew (Below.refl _ _))
theorem BufAt.there {w : World} {g : Nat} {zs : List Int} (h : BufAt w g zs) : w.there g 0 48 := fun j hj => by
  have := h.bytes.cellAt (k := j) hj
  exact ⟨by rw [this]; rfl, h.free _⟩
theorem bufAt_new {w : World} {b : Nat} {X : Array Value} {zs : List Int} {E : TypeId} (hn : b = w.heap.size) (hX : X = (u8s zs).toArray) (hl : zs.length = 48) (hb : allB zs) : BufAt (w.alloc (.cells X E)) b zs :=
  ⟨bytes_block hX hn hl hb, fun o => frozen_top hn⟩
section
variable {w w' : World} {b p : Nat} {bk nr ci ni ra : Bool} {er cc mc ql sn : Int}
theorem rmAt_at {E : TypeId} {k : Nat} (hk : k = w.heap.size) : RmAt (w.alloc (.cells #[.bool bk, .bool nr, .bool ci, .bool ni, .bool ra, .int .u16 er, .int .u16 cc, .int .u16 mc, .int .u32 ql, .int .u32 sn] E)) k bk nr ci ni ra er cc mc ql sn :=
  ⟨cell_top hk rfl, cell_top hk rfl, cell_top hk rfl, cell_top hk rfl, cell_top hk rfl, cell_top hk rfl, cell_top hk rfl, cell_top hk rfl, cell_top hk rfl, cell_top hk rfl⟩
theorem rmAt_new {E : TypeId} : RmAt (w.alloc (.cells #[.bool bk, .bool nr, .bool ci, .bool ni, .bool ra, .int .u16 er, .int .u16 cc, .int .u16 mc, .int .u32 ql, .int .u32 sn] E)) w.heap.size bk nr ci ni ra er cc mc ql sn := rmAt_at rfl
theorem RmAt.below (h : RmAt w b bk nr ci ni ra er cc mc ql sn) (hb : Below w.heap.size w w') : RmAt w' b bk nr ci ni ra er cc mc ql sn :=
  ⟨cell_keep hb h.c0, cell_keep hb h.c1, cell_keep hb h.c2, cell_keep hb h.c3, cell_keep hb h.c4, cell_keep hb h.c5, cell_keep hb h.c6, cell_keep hb h.c7, cell_keep hb h.c8, cell_keep hb h.c9⟩
theorem RmAt.chg (h : RmAt w b bk nr ci ni ra er cc mc ql sn) (hc : Chg p w w') (hn : b ≠ p) : RmAt w' b bk nr ci ni ra er cc mc ql sn :=
  ⟨hc.cell hn h.c0, hc.cell hn h.c1, hc.cell hn h.c2, hc.cell hn h.c3, hc.cell hn h.c4, hc.cell hn h.c5, hc.cell hn h.c6, hc.cell hn h.c7, hc.cell hn h.c8, hc.cell hn h.c9⟩
theorem RmAt.lt (h : RmAt w b bk nr ci ni ra er cc mc ql sn) : b < w.heap.size := World.block_lt_of_cell? _ _ h.c0
end
theorem put2_buf {w : World} {g off c : Nat} {zs : List Int} {n : Int} (h : BufAt w g zs) (ho : off + 2 ≤ 48) (n0 : 0 ≤ n) (n1 : n < 4294967296) :
    Calls Try.prog 26 #[.slice (some ⟨g, off, none⟩) 2 c, .int .u32 n] w fun e w' => e = .returned (.tuple #[]) ∧ BufAt w' g ((zs.set (off + 1) (n % 256)).set off (n / 256 % 256)) ∧ Chg g w w' := by
  refine (put2_any h ho n0 n1).mono ?_
  rintro e w' ⟨rfl, rfl⟩
  exact ⟨rfl, (h.set (by omega) (by omega) (by omega)).set (by omega) (by omega) (by omega), ((Chg.refl _ _).setCell _ _).setCell _ _⟩
theorem put4_buf {w : World} {g off c : Nat} {zs : List Int} {n : Int} (h : BufAt w g zs) (ho : off + 4 ≤ 48) (n0 : 0 ≤ n) (n1 : n < 4294967296) :
    Calls Try.prog 26 #[.slice (some ⟨g, off, none⟩) 4 c, .int .u32 n] w fun e w' => e = .returned (.tuple #[]) ∧ BufAt w' g ((((zs.set (off + 3) (n % 256)).set (off + 2) (n / 256 % 256)).set (off + 1) (n / 65536 % 256)).set off (n / 16777216 % 256)) ∧ Chg g w w' := by
  refine (put4_any h ho n0 n1).mono ?_
  rintro e w' ⟨rfl, rfl⟩
  exact ⟨rfl, (((h.set (by omega) (by omega) (by omega)).set (by omega) (by omega) (by omega)).set (by omega) (by omega) (by omega)).set (by omega) (by omega) (by omega), ((((Chg.refl _ _).setCell _ _).setCell _ _).setCell _ _).setCell _ _⟩
theorem load48v {w : World} {b : Nat} {X : Array Value} (h : w.rangeAt b 0 X.toList) (hl : X.size = 48) : (loadVar 26 ⟨b, 0, none⟩).run Try.prog w = .ok (.agg X) w := by
  exact run_loadVar_mid w b 0 _ X.toList _ h und48 rfl (by rw [siz48]; simp [hl])
theorem wpList_put48 {ops : Array Oper} {rest : List Oper} {a : Act} {w : World} {Q : Exit → Act → World → Prop} {x y : Operand} {ty : TypeId} {pos : String} {after : Array Edge} (b : Nat) (X : Array Value) (h1 : a.eval x = .pointer (some ⟨b, 0, none⟩) ∧ a.eval y = .agg X ∧ X.size = 48 ∧ X.all (·.oneCell') = true ∧ w.there b 0 48)
    (h : wpList Try.prog ops Q rest (a.put none undef) (w.setCells b 0 X.toList)) : wpList Try.prog ops Q (⟨none, .store 26 x y, ty, pos, after, none⟩ :: rest) a w := by
  obtain ⟨hx, hy, hl, h1, ht⟩ := h1
  exact wpList_store_mid rfl 26 x y rfl b 0 X hx hy (by rw [hl]; exact ht) (by rw [siz48, hl]) h1 h
abbrev z48A : Array Value := (u8s z48).toArray
theorem pack_no (bk nr ci ni ra : Bool) (er cc mc ql sn : Int) (w : World) (e0 : 0 ≤ er) (e1 : er < 65536) (c0 : 0 ≤ cc) (c1 : cc < 65536) (m0 : 0 ≤ mc) (m1 : mc < 65536) (hR : Hid ((rgtZ er && rgtZ cc && rgtZ mc) = false)) :
    Calls Try.prog 10 #[.agg #[.bool bk, .bool nr, .bool ci, .bool ni, .bool ra, .int .u16 er, .int .u16 cc, .int .u16 mc, .int .u32 ql, .int .u32 sn]] w fun e w' => (∃ X, e = .returned (.tuple #[.agg X, .int .i64 1]) ∧ Hid (X = (u8s z48).toArray)) ∧ Below w.heap.size w w' := by
  go_enter Try.func10, Try.ntmps10
  go_wp2_with (fail)
  generalize hW : World.alloc _ _ = W
  have RM : RmAt W w.heap.size bk nr ci ni ra er cc mc ql sn := by
    rw [← hW]; exact (rmAt_new.below ((Below.refl _ _).alloc (Nat.le_refl _) _)).below ((Below.refl _ _).alloc (Nat.le_refl _) _)
  have Z1 : BufAt W (w.heap.size + 1) z48 := by
    rw [← hW]; exact (bufAt_new (by simp) (by kernel_rfl) rfl z48_B).below ((Below.refl _ _).alloc (Nat.le_refl _) _)
  have Z2 : BufAt W (w.heap.size + 1 + 1) z48 := by
    rw [← hW]; exact bufAt_new (by simp) (by kernel_rfl) rfl z48_B
  have B0 : Below w.heap.size w W := by rw [← hW]; (repeat' (first | (with_reducible exact Below.refl _ _) | (with_reducible assumption) | (with_reducible refine below_drewN ?_ _) | (with_reducible refine Below.drew ?_) | ((with_reducible refine Below.alloc ?_ ?_ _); (rotate_left; focus (first | omega | (simp; done) | (simp; omega)))) | ((with_reducible refine Below.setCell ?_ ?_ _); (rotate_left; focus (first | omega | (simp; done) | (simp; omega)))) | (with_reducible refine Below.grown ?_ (by assumption) (by first | omega | (simp; omega)) (by simp [Value.ownBlock]; try omega)) | (with_reducible refine below_then ?_ (Aft.below _)) | (with_reducible apply below_then; rotate_left; assumption)))
  clear hW
  obtain ⟨X, hX⟩ : ∃ X, Hid (X = (u8s z48).toArray) := ⟨_, rfl⟩
  have hsx : X.size = 48 := sizeP hX rfl
  refine (right_at RM e0 e1 c0 c1 m0 m1 hR.out).mono ?_
  rintro e w' ⟨rfl, rfl⟩
  go_wp2_with (first | ((with_reducible refine wpList_load48 X ?_ ?_); (focus (exact ⟨_, _, rfl, hsx, range_of Z2.bytes hX⟩))) | ((with_reducible refine wpList_put48 (w.heap.size + 1) X ?_ ?_); (focus (exact ⟨rfl, rfl, hsx, oneP hX, Z1.there⟩))))
  refine bodyPost_ret (results_ct rfl _ _ rfl (load48v (X := X) (World.rangeAt_setCells_same _ _ _ _ (by rw [show X.toList.length = 48 by simpa using hsx]; exact Z1.there)) hsx)) rfl ⟨⟨X, rfl, hX⟩, ?_⟩
  exact Below.setCells _ _ B0 (by omega)
def partF (bk nr ci ni ra : Bool) : Nat → Int
  | 0 => 0
  | 1 => flg bk 128
  | 2 => flg bk 128 + flg nr 64
  | 3 => flg bk 128 + flg nr 64 + flg ci 32
  | 4 => flg bk 128 + flg nr 64 + flg ci 32 + flg ni 16
  | _ => flagZ bk nr ci ni ra
theorem partF_bd (bk nr ci ni ra : Bool) (k : Nat) : 0 ≤ partF bk nr ci ni ra k ∧ partF bk nr ci ni ra k < 256 := by
  unfold partF
  cases bk <;> cases nr <;> cases ci <;> cases ni <;> cases ra <;> (split <;> decide)
theorem or_flag1 (nr ci ni ra : Bool) : bits .or .u8 (partF true nr ci ni ra 0) 128 = partF true nr ci ni ra 1 := by cases nr <;> cases ci <;> cases ni <;> cases ra <;> kernel_rfl
theorem or_flag2 (bk ci ni ra : Bool) : bits .or .u8 (partF bk true ci ni ra 1) 64 = partF bk true ci ni ra 2 := by cases bk <;> cases ci <;> cases ni <;> cases ra <;> kernel_rfl
theorem or_flag3 (bk nr ni ra : Bool) : bits .or .u8 (partF bk nr true ni ra 2) 32 = partF bk nr true ni ra 3 := by cases bk <;> cases nr <;> cases ni <;> cases ra <;> kernel_rfl
theorem or_flag4 (bk nr ci ra : Bool) : bits .or .u8 (partF bk nr ci true ra 3) 16 = partF bk nr ci true ra 4 := by cases bk <;> cases nr <;> cases ci <;> cases ra <;> kernel_rfl
theorem or_flag5 (bk nr ci ni : Bool) : bits .or .u8 (partF bk nr ci ni true 4) 8 = partF bk nr ci ni true 5 := by cases bk <;> cases nr <;> cases ci <;> cases ni <;> kernel_rfl
def fillF (zs : List Int) : Nat → List Int
  | 0 => zs
  | k + 1 => (fillF zs k).set (16 + k) 106
theorem pack_yes (bk nr ci ni ra : Bool) (er cc mc ql sn : Int) (w : World) (e0 : 0 ≤ er) (e1 : er < 65536) (c0 : 0 ≤ cc) (c1 : cc < 65536) (m0 : 0 ≤ mc) (m1 : mc < 65536) (q0 : 0 ≤ ql) (q1 : ql < 4294967296) (s0 : 0 ≤ sn) (s1 : sn < 4294967296) (hR : Hid ((rgtZ er && rgtZ cc && rgtZ mc) = true)) :
    Calls Try.prog 10 #[.agg #[.bool bk, .bool nr, .bool ci, .bool ni, .bool ra, .int .u16 er, .int .u16 cc, .int .u16 mc, .int .u32 ql, .int .u32 sn]] w fun e w' => (∃ X, e = .returned (.tuple #[.agg X, .int .i64 0]) ∧ Hid (X = (u8s (sealZ (packZ bk nr ci ni ra er cc mc ql sn))).toArray)) ∧ Below w.heap.size w w' := by
  have i0 : ∀ b : Nat, ∀ w, (Instr.index 56 (.agg #[.pointer (some ⟨b, 0, none⟩), .pointer (some ⟨b, 1, none⟩), .pointer (some ⟨b, 2, none⟩), .pointer (some ⟨b, 3, none⟩), .pointer (some ⟨b, 4, none⟩)]) (.int .i64 0)).run Try.prog w = .ok (.pointer (some ⟨b, 0, none⟩)) w := fun _ _ => by kernel_rfl
  have i1 : ∀ b : Nat, ∀ w, (Instr.index 56 (.agg #[.pointer (some ⟨b, 0, none⟩), .pointer (some ⟨b, 1, none⟩), .pointer (some ⟨b, 2, none⟩), .pointer (some ⟨b, 3, none⟩), .pointer (some ⟨b, 4, none⟩)]) (.int .i64 1)).run Try.prog w = .ok (.pointer (some ⟨b, 1, none⟩)) w := fun _ _ => by kernel_rfl
  have i2 : ∀ b : Nat, ∀ w, (Instr.index 56 (.agg #[.pointer (some ⟨b, 0, none⟩), .pointer (some ⟨b, 1, none⟩), .pointer (some ⟨b, 2, none⟩), .pointer (some ⟨b, 3, none⟩), .pointer (some ⟨b, 4, none⟩)]) (.int .i64 2)).run Try.prog w = .ok (.pointer (some ⟨b, 2, none⟩)) w := fun _ _ => by kernel_rfl
  have i3 : ∀ b : Nat, ∀ w, (Instr.index 56 (.agg #[.pointer (some ⟨b, 0, none⟩), .pointer (some ⟨b, 1, none⟩), .pointer (some ⟨b, 2, none⟩), .pointer (some ⟨b, 3, none⟩), .pointer (some ⟨b, 4, none⟩)]) (.int .i64 3)).run Try.prog w = .ok (.pointer (some ⟨b, 3, none⟩)) w := fun _ _ => by kernel_rfl
  have i4 : ∀ b : Nat, ∀ w, (Instr.index 56 (.agg #[.pointer (some ⟨b, 0, none⟩), .pointer (some ⟨b, 1, none⟩), .pointer (some ⟨b, 2, none⟩), .pointer (some ⟨b, 3, none⟩), .pointer (some ⟨b, 4, none⟩)]) (.int .i64 4)).run Try.prog w = .ok (.pointer (some ⟨b, 4, none⟩)) w := fun _ _ => by kernel_rfl
  go_enter Try.func10, Try.ntmps10
  go_wp2_with (fail)
  generalize hW : World.alloc _ _ = W
  have RM : RmAt W w.heap.size bk nr ci ni ra er cc mc ql sn := by
    rw [← hW]; exact (rmAt_new.below ((Below.refl _ _).alloc (Nat.le_refl _) _)).below ((Below.refl _ _).alloc (Nat.le_refl _) _)
  have Z1 : BufAt W (w.heap.size + 1) z48 := by
    rw [← hW]; exact (bufAt_new (by simp) (by kernel_rfl) rfl z48_B).below ((Below.refl _ _).alloc (Nat.le_refl _) _)
  have Z2 : BufAt W (w.heap.size + 1 + 1) z48 := by
    rw [← hW]; exact bufAt_new (by simp) (by kernel_rfl) rfl z48_B
  have B0 : Below w.heap.size w W := by rw [← hW]; (repeat' (first | (with_reducible exact Below.refl _ _) | (with_reducible assumption) | (with_reducible refine below_drewN ?_ _) | (with_reducible refine Below.drew ?_) | ((with_reducible refine Below.alloc ?_ ?_ _); (rotate_left; focus (first | omega | (simp; done) | (simp; omega)))) | ((with_reducible refine Below.setCell ?_ ?_ _); (rotate_left; focus (first | omega | (simp; done) | (simp; omega)))) | (with_reducible refine Below.grown ?_ (by assumption) (by first | omega | (simp; omega)) (by simp [Value.ownBlock]; try omega)) | (with_reducible refine below_then ?_ (Aft.below _)) | (with_reducible apply below_then; rotate_left; assumption)))
  clear hW
  refine (right_at RM e0 e1 c0 c1 m0 m1 hR.out).mono ?_
  rintro e w' ⟨rfl, rfl⟩
  have y0 := Z2.bytes.cellAt (k := 0) (by omega)
  have f0 := Z2.free 0
  have hrm := RM.lt
  go_wp2_with (go_at_call 25; refine (set_at w.heap.size _ ?hb).mono ?_; (case hb => (simp; omega)); rintro e ws ⟨rfl, hb_ws⟩)
  obtain ⟨b2, hb2⟩ : ∃ b2, b2 = w.heap.size + 1 + 1 := ⟨_, rfl⟩
  obtain ⟨b1, hb1⟩ : ∃ b1, b1 = w.heap.size + 1 := ⟨_, rfl⟩
  obtain ⟨b0, hb0⟩ : ∃ b0, b0 = w.heap.size := ⟨_, rfl⟩
  have hlt : w.heap.size ≤ b0 ∧ b0 < b1 ∧ b1 < b2 := by omega
  have Z2s : BufAt ws b2 (1 :: partF bk nr ci ni ra 0 :: List.replicate 46 0) := by rw [hb2]; exact (Z2.set (q := 0) (x := 1) (by omega) (by omega) (by omega)).below hb_ws
  have RMs : RmAt ws b0 bk nr ci ni ra er cc mc ql sn := by rw [hb0]; exact (RM.chg (Chg.setCell (b := w.heap.size + 1 + 1) (Chg.refl _ _) _ _) (by omega)).below hb_ws
  have Z1s : BufAt ws b1 z48 := by rw [hb1]; exact (Z1.chg (Chg.setCell (b := w.heap.size + 1 + 1) (Chg.refl _ _) _ _) (by omega)).below hb_ws
  have Bs : Below w.heap.size w ws := by (repeat' (first | (with_reducible exact Below.refl _ _) | (with_reducible assumption) | (with_reducible refine below_drewN ?_ _) | (with_reducible refine Below.drew ?_) | ((with_reducible refine Below.alloc ?_ ?_ _); (rotate_left; focus (first | omega | (simp; done) | (simp; omega)))) | ((with_reducible refine Below.setCell ?_ ?_ _); (rotate_left; focus (first | omega | (simp; done) | (simp; omega)))) | (with_reducible refine Below.grown ?_ (by assumption) (by first | omega | (simp; omega)) (by simp [Value.ownBlock]; try omega)) | (with_reducible refine below_then ?_ (Aft.below _)) | (with_reducible apply below_then; rotate_left; assumption)))
  rw [← hb2, ← hb1, ← hb0]
  clear hb2 hb1 hb0 y0 f0 hrm B0 RM Z1 Z2 hb_ws
  go_loopw [13] (fun s13 wr => ∃ k : Nat, k ≤ 5 ∧ s13 = .int .i64 k ∧ BufAt wr b2 (1 :: partF bk nr ci ni ra k :: List.replicate 46 0) ∧ RmAt wr b0 bk nr ci ni ra er cc mc ql sn ∧ BufAt wr b1 z48 ∧ Below w.heap.size w wr) (fun s13 wr => 5 - (intOf s13).toNat)
  case atStart => exact ⟨0, by omega, rfl, Z2s, RMs, Z1s, Bs⟩
  case round =>
    clear Z2s RMs Z1s Bs
    obtain ⟨k, hk, rfl, Z2, RM, Z1, B0⟩ := hrel
    have hlt2 := Z2.lt
    by_cases hlt : k < 5
    · have y1 := Z2.bytes.cellAt (k := 1) (by omega)
      have f1 := Z2.free 1
      have pb := partF_bd bk nr ci ni ra k
      obtain ⟨r0, r1, r2, r3, r4, _⟩ := id RM
      have hk5 : k = 0 ∨ k = 1 ∨ k = 2 ∨ k = 3 ∨ k = 4 := by omega
      rcases hk5 with rfl | rfl | rfl | rfl | rfl
      · cases bk with
        | false =>
          go_wp2
          go_roundw
          case rel => exact ⟨1, by omega, by go_num, (by have e : partF false nr ci ni ra 1 = partF false nr ci ni ra 0 := (by simp [partF, flagZ, flg]); rw [e]; exact Z2), RM, Z1, B0⟩
          case measure => simp [intOf]
        | true =>
          have ho := or_flag1 nr ci ni ra
          have pb' := partF_bd true nr ci ni ra 1
          go_wp2
          (refine region_tail_q 6 (by kernel_rfl) (by kernel_rfl) rfl ?_); (simp only [List.take_succ_cons, List.take_zero, List.drop_succ_cons, List.drop_zero]); (repeat (go_big_quiet_step (fail))); (refine wpQuiet_nil ?_)
          go_wp2
          go_roundw
          case rel => exact ⟨1, by omega, by go_num, Z2.drew.set (q := 1) (by omega) pb'.1 pb'.2, RM.chg ((Chg.refl _ _).drew.setCell _ _) (by omega), Z1.chg ((Chg.refl _ _).drew.setCell _ _) (by omega), by (repeat' (first | (with_reducible exact Below.refl _ _) | (with_reducible assumption) | (with_reducible refine below_drewN ?_ _) | (with_reducible refine Below.drew ?_) | ((with_reducible refine Below.alloc ?_ ?_ _); (rotate_left; focus (first | omega | (simp; done) | (simp; omega)))) | ((with_reducible refine Below.setCell ?_ ?_ _); (rotate_left; focus (first | omega | (simp; done) | (simp; omega)))) | (with_reducible refine Below.grown ?_ (by assumption) (by first | omega | (simp; omega)) (by simp [Value.ownBlock]; try omega)) | (with_reducible refine below_then ?_ (Aft.below _)) | (with_reducible apply below_then; rotate_left; assumption)))⟩
          case measure => simp [intOf]
      · cases nr with
        | false =>
          go_wp2
          go_roundw
          case rel => exact ⟨2, by omega, by go_num, (by have e : partF bk false ci ni ra 2 = partF bk false ci ni ra 1 := (by simp [partF, flagZ, flg]); rw [e]; exact Z2), RM, Z1, B0⟩
          case measure => simp [intOf]
        | true =>
          have ho := or_flag2 bk ci ni ra
          have pb' := partF_bd bk true ci ni ra 2
          go_wp2
          (refine region_tail_q 6 (by kernel_rfl) (by kernel_rfl) rfl ?_); (simp only [List.take_succ_cons, List.take_zero, List.drop_succ_cons, List.drop_zero]); (repeat (go_big_quiet_step (fail))); (refine wpQuiet_nil ?_)
          go_wp2
          go_roundw
          case rel => exact ⟨2, by omega, by go_num, Z2.drew.set (q := 1) (by omega) pb'.1 pb'.2, RM.chg ((Chg.refl _ _).drew.setCell _ _) (by omega), Z1.chg ((Chg.refl _ _).drew.setCell _ _) (by omega), by (repeat' (first | (with_reducible exact Below.refl _ _) | (with_reducible assumption) | (with_reducible refine below_drewN ?_ _) | (with_reducible refine Below.drew ?_) | ((with_reducible refine Below.alloc ?_ ?_ _); (rotate_left; focus (first | omega | (simp; done) | (simp; omega)))) | ((with_reducible refine Below.setCell ?_ ?_ _); (rotate_left; focus (first | omega | (simp; done) | (simp; omega)))) | (with_reducible refine Below.grown ?_ (by assumption) (by first | omega | (simp; omega)) (by simp [Value.ownBlock]; try omega)) | (with_reducible refine below_then ?_ (Aft.below _)) | (with_reducible apply below_then; rotate_left; assumption)))⟩
          case measure => simp [intOf]
      · cases ci with
        | false =>
          go_wp2
          go_roundw
          case rel => exact ⟨3, by omega, by go_num, (by have e : partF bk nr false ni ra 3 = partF bk nr false ni ra 2 := (by simp [partF, flagZ, flg]); rw [e]; exact Z2), RM, Z1, B0⟩
          case measure => simp [intOf]
        | true =>
          have ho := or_flag3 bk nr ni ra
          have pb' := partF_bd bk nr true ni ra 3
          go_wp2
          (refine region_tail_q 6 (by kernel_rfl) (by kernel_rfl) rfl ?_); (simp only [List.take_succ_cons, List.take_zero, List.drop_succ_cons, List.drop_zero]); (repeat (go_big_quiet_step (fail))); (refine wpQuiet_nil ?_)
          go_wp2
          go_roundw
          case rel => exact ⟨3, by omega, by go_num, Z2.drew.set (q := 1) (by omega) pb'.1 pb'.2, RM.chg ((Chg.refl _ _).drew.setCell _ _) (by omega), Z1.chg ((Chg.refl _ _).drew.setCell _ _) (by omega), by (repeat' (first | (with_reducible exact Below.refl _ _) | (with_reducible assumption) | (with_reducible refine below_drewN ?_ _) | (with_reducible refine Below.drew ?_) | ((with_reducible refine Below.alloc ?_ ?_ _); (rotate_left; focus (first | omega | (simp; done) | (simp; omega)))) | ((with_reducible refine Below.setCell ?_ ?_ _); (rotate_left; focus (first | omega | (simp; done) | (simp; omega)))) | (with_reducible refine Below.grown ?_ (by assumption) (by first | omega | (simp; omega)) (by simp [Value.ownBlock]; try omega)) | (with_reducible refine below_then ?_ (Aft.below _)) | (with_reducible apply below_then; rotate_left; assumption)))⟩
          case measure => simp [intOf]
      · cases ni with
        | false =>
          go_wp2
          go_roundw
          case rel => exact ⟨4, by omega, by go_num, (by have e : partF bk nr ci false ra 4 = partF bk nr ci false ra 3 := (by simp [partF, flagZ, flg]); rw [e]; exact Z2), RM, Z1, B0⟩
          case measure => simp [intOf]
        | true =>
          have ho := or_flag4 bk nr ci ra
          have pb' := partF_bd bk nr ci true ra 4
          go_wp2
          (refine region_tail_q 6 (by kernel_rfl) (by kernel_rfl) rfl ?_); (simp only [List.take_succ_cons, List.take_zero, List.drop_succ_cons, List.drop_zero]); (repeat (go_big_quiet_step (fail))); (refine wpQuiet_nil ?_)
          go_wp2
          go_roundw
          case rel => exact ⟨4, by omega, by go_num, Z2.drew.set (q := 1) (by omega) pb'.1 pb'.2, RM.chg ((Chg.refl _ _).drew.setCell _ _) (by omega), Z1.chg ((Chg.refl _ _).drew.setCell _ _) (by omega), by (repeat' (first | (with_reducible exact Below.refl _ _) | (with_reducible assumption) | (with_reducible refine below_drewN ?_ _) | (with_reducible refine Below.drew ?_) | ((with_reducible refine Below.alloc ?_ ?_ _); (rotate_left; focus (first | omega | (simp; done) | (simp; omega)))) | ((with_reducible refine Below.setCell ?_ ?_ _); (rotate_left; focus (first | omega | (simp; done) | (simp; omega)))) | (with_reducible refine Below.grown ?_ (by assumption) (by first | omega | (simp; omega)) (by simp [Value.ownBlock]; try omega)) | (with_reducible refine below_then ?_ (Aft.below _)) | (with_reducible apply below_then; rotate_left; assumption)))⟩
          case measure => simp [intOf]
      · cases ra with
        | false =>
          go_wp2
          go_roundw
          case rel => exact ⟨5, by omega, by go_num, (by have e : partF bk nr ci ni false 5 = partF bk nr ci ni false 4 := (by simp [partF, flagZ, flg]); rw [e]; exact Z2), RM, Z1, B0⟩
          case measure => simp [intOf]
        | true =>
          have ho := or_flag5 bk nr ci ni
          have pb' := partF_bd bk nr ci ni true 5
          go_wp2
          (refine region_tail_q 6 (by kernel_rfl) (by kernel_rfl) rfl ?_); (simp only [List.take_succ_cons, List.take_zero, List.drop_succ_cons, List.drop_zero]); (repeat (go_big_quiet_step (fail))); (refine wpQuiet_nil ?_)
          go_wp2
          go_roundw
          case rel => exact ⟨5, by omega, by go_num, Z2.drew.set (q := 1) (by omega) pb'.1 pb'.2, RM.chg ((Chg.refl _ _).drew.setCell _ _) (by omega), Z1.chg ((Chg.refl _ _).drew.setCell _ _) (by omega), by (repeat' (first | (with_reducible exact Below.refl _ _) | (with_reducible assumption) | (with_reducible refine below_drewN ?_ _) | (with_reducible refine Below.drew ?_) | ((with_reducible refine Below.alloc ?_ ?_ _); (rotate_left; focus (first | omega | (simp; done) | (simp; omega)))) | ((with_reducible refine Below.setCell ?_ ?_ _); (rotate_left; focus (first | omega | (simp; done) | (simp; omega)))) | (with_reducible refine Below.grown ?_ (by assumption) (by first | omega | (simp; omega)) (by simp [Value.ownBlock]; try omega)) | (with_reducible refine below_then ?_ (Aft.below _)) | (with_reducible apply below_then; rotate_left; assumption)))⟩
          case measure => simp [intOf]
    · obtain rfl : k = 5 := by omega
      go_wp2
      obtain ⟨_, _, _, _, _, p5, p6, p7, p8, p9⟩ := id RM
      refine region_tail_b 4 (by kernel_rfl) (by kernel_rfl) rfl ?_
      simp only [List.take_succ_cons, List.take_zero, List.drop_succ_cons, List.drop_zero]
      (repeat (go_big_quiet_step (fail)))
      (refine wpQuiet_nil ?_)
      go_wp2_with (go_at_call 26; (with_reducible refine (put2_buf (zs := _) Z2.drew ?hq e0 ?hr).mono ?_); (case hq => omega); (case hr => omega); rintro e v0 ⟨rfl, ZZ0, CC0⟩)
      have RR0 := RM.chg (Chg.trans (Chg.refl _ _).drew CC0) (by omega)
      have YY0 := Z1.chg (Chg.trans (Chg.refl _ _).drew CC0) (by omega)
      have BB0 : Below w.heap.size w v0 := chg_back CC0 B0.drew (by omega) (by have := B0.size; simpa using this)
      have hs0 := ZZ0.lt
      clear p5 p6 p7 p8 p9 Z2 RM Z1 B0 CC0
      obtain ⟨_, _, _, _, _, p5, p6, p7, p8, p9⟩ := id RR0
      refine region_tail_b 4 (by kernel_rfl) (by kernel_rfl) rfl ?_
      simp only [List.take_succ_cons, List.take_zero, List.drop_succ_cons, List.drop_zero]
      (repeat (go_big_quiet_step (fail)))
      (refine wpQuiet_nil ?_)
      go_wp2_with (go_at_call 26; (with_reducible refine (put2_buf (zs := _) ZZ0.drew ?hq c0 ?hr).mono ?_); (case hq => omega); (case hr => omega); rintro e v1 ⟨rfl, ZZ1, CC1⟩)
      have RR1 := RR0.chg (Chg.trans (Chg.refl _ _).drew CC1) (by omega)
      have YY1 := YY0.chg (Chg.trans (Chg.refl _ _).drew CC1) (by omega)
      have BB1 : Below w.heap.size w v1 := chg_back CC1 BB0.drew (by omega) (by have := BB0.size; simpa using this)
      have hs1 := ZZ1.lt
      clear p5 p6 p7 p8 p9 ZZ0 RR0 YY0 BB0 CC1
      obtain ⟨_, _, _, _, _, p5, p6, p7, p8, p9⟩ := id RR1
      refine region_tail_b 4 (by kernel_rfl) (by kernel_rfl) rfl ?_
      simp only [List.take_succ_cons, List.take_zero, List.drop_succ_cons, List.drop_zero]
      (repeat (go_big_quiet_step (fail)))
      (refine wpQuiet_nil ?_)
      go_wp2_with (go_at_call 26; (with_reducible refine (put2_buf (zs := _) ZZ1.drew ?hq m0 ?hr).mono ?_); (case hq => omega); (case hr => omega); rintro e v2 ⟨rfl, ZZ2, CC2⟩)
      have RR2 := RR1.chg (Chg.trans (Chg.refl _ _).drew CC2) (by omega)
      have YY2 := YY1.chg (Chg.trans (Chg.refl _ _).drew CC2) (by omega)
      have BB2 : Below w.heap.size w v2 := chg_back CC2 BB1.drew (by omega) (by have := BB1.size; simpa using this)
      have hs2 := ZZ2.lt
      clear p5 p6 p7 p8 p9 ZZ1 RR1 YY1 BB1 CC2
      obtain ⟨_, _, _, _, _, p5, p6, p7, p8, p9⟩ := id RR2
      refine region_tail_b 3 (by kernel_rfl) (by kernel_rfl) rfl ?_
      simp only [List.take_succ_cons, List.take_zero, List.drop_succ_cons, List.drop_zero]
      (repeat (go_big_quiet_step (fail)))
      (refine wpQuiet_nil ?_)
      go_wp2_with (go_at_call 26; (with_reducible refine (put4_buf (zs := _) ZZ2.drew ?hq q0 ?hr).mono ?_); (case hq => omega); (case hr => omega); rintro e v3 ⟨rfl, ZZ3, CC3⟩)
      have RR3 := RR2.chg (Chg.trans (Chg.refl _ _).drew CC3) (by omega)
      have YY3 := YY2.chg (Chg.trans (Chg.refl _ _).drew CC3) (by omega)
      have BB3 : Below w.heap.size w v3 := chg_back CC3 BB2.drew (by omega) (by have := BB2.size; simpa using this)
      have hs3 := ZZ3.lt
      clear p5 p6 p7 p8 p9 ZZ2 RR2 YY2 BB2 CC3
      obtain ⟨_, _, _, _, _, p5, p6, p7, p8, p9⟩ := id RR3
      refine region_tail_b 3 (by kernel_rfl) (by kernel_rfl) rfl ?_
      simp only [List.take_succ_cons, List.take_zero, List.drop_succ_cons, List.drop_zero]
      (repeat (go_big_quiet_step (fail)))
      (refine wpQuiet_nil ?_)
      go_wp2_with (go_at_call 26; (with_reducible refine (put4_buf (zs := _) ZZ3.drew ?hq s0 ?hr).mono ?_); (case hq => omega); (case hr => omega); rintro e v4 ⟨rfl, ZZ4, CC4⟩)
      have RR4 := RR3.chg (Chg.trans (Chg.refl _ _).drew CC4) (by omega)
      have YY4 := YY3.chg (Chg.trans (Chg.refl _ _).drew CC4) (by omega)
      have BB4 : Below w.heap.size w v4 := chg_back CC4 BB3.drew (by omega) (by have := BB3.size; simpa using this)
      have hs4 := ZZ4.lt
      clear p5 p6 p7 p8 p9 ZZ3 RR3 YY3 BB3 CC4
      obtain ⟨L, hL, ZL⟩ : ∃ L, Hid (fillF L 30 = packZ bk nr ci ni ra er cc mc ql sn) ∧ BufAt v4 b2 L := by
        refine ⟨_, ?_, ZZ4⟩
        have : partF bk nr ci ni ra 5 = flagZ bk nr ci ni ra := rfl
        rw [this]
        refine Lib.hid ?_
        kernel_rfl
      clear ZZ4
      go_loopw [7] (fun s7 wr => ∃ n : Nat, 16 ≤ n ∧ n ≤ 46 ∧ s7 = .int .i64 n ∧ BufAt wr b2 (fillF L (n - 16)) ∧ BufAt wr b1 z48 ∧ Below w.heap.size w wr) (fun s7 wr => 46 - (intOf s7).toNat)
      case atStart => exact ⟨16, by omega, by omega, rfl, ZL, YY4, BB4⟩
      case round =>
        clear ZL YY4 BB4 RR4 hs0 hs1 hs2 hs3 hs4
        obtain ⟨n, hn1, hn2, rfl, Z2, Z1, B0⟩ := hrel
        have hlt2 := Z2.lt
        by_cases hlt : n < 46
        · have yn := Z2.bytes.cellAt (k := n) (by omega)
          have fn := Z2.free n
          rw [Nat.zero_add] at yn
          obtain ⟨M, hM⟩ : ∃ M, M = fillF L (n - 16) := ⟨_, rfl⟩
          rw [← hM] at Z2 yn
          have HM := Lib.hid hM
          obtain ⟨z, hz⟩ : ∃ z, M[n]?.getD 0 = z := ⟨_, rfl⟩
          rw [hz] at yn
          clear hM hz
          have hn3 : (n : Int) < 46 := by omega
          go_wp2
          go_roundw
          case rel =>
            refine ⟨n + 1, by omega, by omega, by go_num, ?_, Z1.chg ((Chg.refl _ _).setCell _ _) (by omega), by (repeat' (first | (with_reducible exact Below.refl _ _) | (with_reducible assumption) | (with_reducible refine below_drewN ?_ _) | (with_reducible refine Below.drew ?_) | ((with_reducible refine Below.alloc ?_ ?_ _); (rotate_left; focus (first | omega | (simp; done) | (simp; omega)))) | ((with_reducible refine Below.setCell ?_ ?_ _); (rotate_left; focus (first | omega | (simp; done) | (simp; omega)))) | (with_reducible refine Below.grown ?_ (by assumption) (by first | omega | (simp; omega)) (by simp [Value.ownBlock]; try omega)) | (with_reducible refine below_then ?_ (Aft.below _)) | (with_reducible apply below_then; rotate_left; assumption)))⟩
            have e : n + 1 - 16 = (n - 16) + 1 := by omega
            rw [e]
            show BufAt _ b2 ((fillF L (n - 16)).set (16 + (n - 16)) 106)
            rw [show 16 + (n - 16) = n by omega, ← HM.out]
            exact Z2.set (by omega) (by omega) (by omega)
          case measure => simp [intOf]; omega
        · obtain rfl : n = 46 := by omega
          rw [show 46 - 16 = 30 from rfl, hL.out] at Z2
          obtain ⟨X, hX⟩ : ∃ X, Hid (X = (u8s (packZ bk nr ci ni ra er cc mc ql sn)).toArray) := ⟨_, rfl⟩
          obtain ⟨Y, hY⟩ : ∃ Y, Hid (Y = (u8s (sealZ (packZ bk nr ci ni ra er cc mc ql sn))).toArray) := ⟨_, rfl⟩
          have hsx : X.size = 48 := sizeP hX (packZ_len ..)
          have hsy : Y.size = 48 := sizeP hY ((sealZ_len _).trans (packZ_len ..))
          go_wp2_with (first | ((with_reducible refine wpList_load48 X ?_ ?_); (focus (exact ⟨_, _, rfl, hsx, range_of Z2.bytes hX⟩))) | (go_at_call 27; (with_reducible refine (sealX_any X _ Y _ hX hY (packZ_len ..) (packZ_B ..)).mono ?_); rintro e wz ⟨rfl, hb_wz⟩; have Z1z := Z1.below hb_wz) | ((with_reducible refine wpList_put48 b1 Y ?_ ?_); (focus (exact ⟨rfl, rfl, hsy, oneP hY, Z1z.there⟩))))
          refine bodyPost_ret (results_ct rfl _ _ rfl (load48v (X := Y) (World.rangeAt_setCells_same _ _ _ _ (by rw [show Y.toList.length = 48 by simpa using hsy]; exact Z1z.there)) hsy)) rfl ⟨⟨Y, rfl, hY⟩, ?_⟩
          exact Below.setCells _ _ (B0.trans (hb_wz.mono B0.size)) (by omega)
end Go.Proofs.Ytnjjejhniekdcaa
