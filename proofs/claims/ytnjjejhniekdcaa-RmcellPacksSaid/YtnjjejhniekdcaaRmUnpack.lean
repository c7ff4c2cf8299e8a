/- The walk of rmcell.Unpack. -/
import Derived.Test.YtnjjejhniekdcaaRmPack
import Derived.Deep.RegionHeld3
import Derived.Deep.DrawnRows
namespace Go.Proofs.Ytnjjejhniekdcaa
set_option linter.unusedVariables false
set_option linter.unusedSimpArgs false
open Go.RowKit
set_option maxRecDepth 100000
set_option maxHeartbeats 4000000
attribute [local go_sem ↓] Go.wp_at_zero Go.wp_at_succ
abbrev rmV (bk nr ci ni ra : Bool) (er cc mc ql sn : Int) : List Value := [.bool bk, .bool nr, .bool ci, .bool ni, .bool ra, .int .u16 er, .int .u16 cc, .int .u16 mc, .int .u32 ql, .int .u32 sn]
abbrev rm0 : List Value := rmV false false false false false 0 0 0 0 0
theorem und31 : ∃ d, Try.prog.underlying 31 = some d ∧ d.isRow = true := ⟨_, by simp [go_sem]; rfl, rfl⟩
theorem siz31 : (Try.prog.info? 31).map (·.size) = some 10 := by kernel_rfl
theorem load31 {w : World} {b : Nat} {cs : List Value} (h : w.rangeAt b 0 cs) (hl : cs.length = 10) : (loadVar 31 ⟨b, 0, none⟩).run Try.prog w = .ok (.agg cs.toArray) w := by
  obtain ⟨d, h1, h2⟩ := und31
  exact run_loadVar_mid w b 0 _ cs d h h1 h2 (by rw [siz31, hl])
theorem rm_range {w : World} {b : Nat} {bk nr ci ni ra : Bool} {er cc mc ql sn : Int} (h : RmAt w b bk nr ci ni ra er cc mc ql sn) : w.rangeAt b 0 (rmV bk nr ci ni ra er cc mc ql sn) := fun j v hv => by
  match j, hv with
  | 0, hv => injection hv with hv; subst hv; exact h.c0
  | 1, hv => injection hv with hv; subst hv; exact h.c1
  | 2, hv => injection hv with hv; subst hv; exact h.c2
  | 3, hv => injection hv with hv; subst hv; exact h.c3
  | 4, hv => injection hv with hv; subst hv; exact h.c4
  | 5, hv => injection hv with hv; subst hv; exact h.c5
  | 6, hv => injection hv with hv; subst hv; exact h.c6
  | 7, hv => injection hv with hv; subst hv; exact h.c7
  | 8, hv => injection hv with hv; subst hv; exact h.c8
  | 9, hv => injection hv with hv; subst hv; exact h.c9
theorem wpList_put31 {ops : Array Oper} {rest : List Oper} {a : Act} {w : World} {Q : Exit → Act → World → Prop} {x y : Operand} {ty : TypeId} {pos : String} {after : Array Edge} (b : Nat) (cs : List Value) (h1 : a.eval x = .pointer (some ⟨b, 0, none⟩) ∧ a.eval y = .agg cs.toArray ∧ cs.length = 10 ∧ cs.toArray.all (·.oneCell') = true ∧ w.there b 0 10)
    (h : wpList Try.prog ops Q rest (a.put none undef) (w.setCells b 0 cs)) : wpList Try.prog ops Q (⟨none, .store 31 x y, ty, pos, after, none⟩ :: rest) a w := by
  obtain ⟨hx, hy, hl, h1, ht⟩ := h1
  exact wpList_store_mid rfl 31 x y rfl b 0 cs.toArray hx hy (by simpa [hl] using ht) (by rw [siz31]; simp [hl]) h1 (by simpa using h)
theorem wpList_load31 {ops : Array Oper} {rest : List Oper} {a : Act} {w : World} {Q : Exit → Act → World → Prop} {x : Operand} {dst : Option Nat} {ty : TypeId} {pos : String} {after : Array Edge} (cs : List Value) (h1 : ∃ b, a.eval x = .pointer (some ⟨b, 0, none⟩) ∧ cs.length = 10 ∧ w.rangeAt b 0 cs)
    (h : wpList Try.prog ops Q rest (a.put dst (.agg cs.toArray)) w) : wpList Try.prog ops Q (⟨dst, .load 31 x, ty, pos, after, none⟩ :: rest) a w := by
  obtain ⟨b, hx, hl, hc⟩ := h1
  refine wpList_run rfl ?_ h
  unfold execOp
  have hr := load31 hc hl
  simp only [hx, Instr.loadAt, Instr.sureAddr, Sem.run_bind, Sem.run_pure, Result.andThen_ok, hr]
theorem one_rm (bk nr ci ni ra : Bool) (er cc mc ql sn : Int) : (rmV bk nr ci ni ra er cc mc ql sn).toArray.all (·.oneCell') = true := all_oneCell_toArray (fun v hv => by
  simp only [rmV, List.mem_cons, List.not_mem_nil, or_false] at hv
  rcases hv with h | h | h | h | h | h | h | h | h | h <;> (rw [h]; rfl))
theorem load31_same {w : World} {b : Nat} {cs : List Value} (ht : w.there b 0 10) (hl : cs.length = 10) : (loadVar 31 ⟨b, 0, none⟩).run Try.prog (w.setCells b 0 cs) = .ok (.agg cs.toArray) (w.setCells b 0 cs) :=
  load31 (World.rangeAt_setCells_same _ _ _ _ (by rw [hl]; exact ht)) hl
theorem unpack_sum (zs : List Int) (X : Array Value) (w : World) (hX : Hid (X = (u8s zs).toArray)) (hl : Hid (zs.length = 48)) (hb : Hid (allB zs)) (hS : Hid (decide (sealZ zs = zs) = false)) :
    Calls Try.prog 12 #[.agg X] w fun e w' => e = .returned (.tuple #[.agg rm0.toArray, .int .i64 4]) ∧ Below w.heap.size w w' := by
  have hsz : X.size = 48 := sizeP hX hl.out
  go_enter Try.func12, Try.ntmps12
  go_wp2_with (first | ((with_reducible refine wpList_load48 X ?_ ?_); (focus (exact ⟨_, _, rfl, hsz, range_of ((bytes_block hX rfl hl.out hb.out).below ((Below.refl _ _).alloc (Nat.le_refl _) _)) hX⟩))) | (go_at_call 16; (with_reducible refine (sealedX_any X zs _ hX hl.out hb.out hS.out).mono ?_); rintro e w1 ⟨rfl, hb_w1⟩; have hs_w1 := hb_w1.size; (try simp at hs_w1); have t_1 : w1.there (w.heap.size + 1) 0 10 := (there_below (there_new (by simp) rfl) hb_w1)) | ((with_reducible refine wpList_put31 (w.heap.size + 1) rm0 ?_ ?_); (focus (exact ⟨rfl, rfl, rfl, one_rm _ _ _ _ _ _ _ _ _ _, t_1⟩))))
  refine bodyPost_ret (results_ct rfl _ _ rfl (load31_same t_1 rfl)) rfl ⟨rfl, ?_⟩
  exact Below.setCells _ _ (by (repeat' (first | (with_reducible exact Below.refl _ _) | (with_reducible assumption) | (with_reducible refine below_drewN ?_ _) | (with_reducible refine Below.drew ?_) | ((with_reducible refine Below.alloc ?_ ?_ _); (rotate_left; focus (first | omega | (simp; done) | (simp; omega)))) | ((with_reducible refine Below.setCell ?_ ?_ _); (rotate_left; focus (first | omega | (simp; done) | (simp; omega)))) | (with_reducible refine Below.grown ?_ (by assumption) (by first | omega | (simp; omega)) (by simp [Value.ownBlock]; try omega)) | (with_reducible refine below_then ?_ (Aft.below _)) | (with_reducible apply below_then; rotate_left; assumption)))) (by omega)
theorem unpack_kind (zs : List Int) (X : Array Value) (w : World) (hX : Hid (X = (u8s zs).toArray)) (hl : Hid (zs.length = 48)) (hb : Hid (allB zs)) (hS : Hid (decide (sealZ zs = zs) = true)) (z : Int) (hz : Hid (zs[0]?.getD 0 = z)) (hz1 : (z != 1) = true) :
    Calls Try.prog 12 #[.agg X] w fun e w' => e = .returned (.tuple #[.agg rm0.toArray, .int .i64 12]) ∧ Below w.heap.size w w' := by
  have hsz : X.size = 48 := sizeP hX hl.out
  go_enter Try.func12, Try.ntmps12
  go_wp2_with (first | ((with_reducible refine wpList_load48 X ?_ ?_); (focus (exact ⟨_, _, rfl, hsz, range_of ((bytes_block hX rfl hl.out hb.out).below ((Below.refl _ _).alloc (Nat.le_refl _) _)) hX⟩))) | (go_at_call 16; (with_reducible refine (sealedX_any X zs _ hX hl.out hb.out hS.out).mono ?_); rintro e w1 ⟨rfl, hb_w1⟩; have hs_w1 := hb_w1.size; (try simp at hs_w1); have t_1 : w1.there (w.heap.size + 1) 0 10 := (there_below (there_new (by simp) rfl) hb_w1); have c0_1 : w1.cell? ⟨w.heap.size, 0, none⟩ = some (.int .u8 z) := (by have h := (((bytes_block hX rfl hl.out hb.out).below ((Below.refl _ _).alloc (Nat.le_refl _) _)).below hb_w1).cellAt (k := 0) (by omega); rw [Nat.zero_add, hz.out] at h; exact h)) | ((with_reducible refine wpList_put31 (w.heap.size + 1) rm0 ?_ ?_); (focus (exact ⟨rfl, rfl, rfl, one_rm _ _ _ _ _ _ _ _ _ _, t_1⟩))))
  refine bodyPost_ret (results_ct rfl _ _ rfl (load31_same t_1 rfl)) rfl ⟨rfl, ?_⟩
  exact Below.setCells _ _ (by (repeat' (first | (with_reducible exact Below.refl _ _) | (with_reducible assumption) | (with_reducible refine below_drewN ?_ _) | (with_reducible refine Below.drew ?_) | ((with_reducible refine Below.alloc ?_ ?_ _); (rotate_left; focus (first | omega | (simp; done) | (simp; omega)))) | ((with_reducible refine Below.setCell ?_ ?_ _); (rotate_left; focus (first | omega | (simp; done) | (simp; omega)))) | (with_reducible refine Below.grown ?_ (by assumption) (by first | omega | (simp; omega)) (by simp [Value.ownBlock]; try omega)) | (with_reducible refine below_then ?_ (Aft.below _)) | (with_reducible apply below_then; rotate_left; assumption)))) (by omega)
theorem unpack_form (zs : List Int) (X : Array Value) (w : World) (hX : Hid (X = (u8s zs).toArray)) (hl : Hid (zs.length = 48)) (hb : Hid (allB zs)) (hS : Hid (decide (sealZ zs = zs) = true)) (z : Int) (hz : Hid (zs[0]?.getD 0 = z)) (hz1 : (z != 1) = false) (hF : Hid (fixZ zs = false)) :
    Calls Try.prog 12 #[.agg X] w fun e w' => e = .returned (.tuple #[.agg rm0.toArray, .int .i64 5]) ∧ Below w.heap.size w w' := by
  have hsz : X.size = 48 := sizeP hX hl.out
  go_enter Try.func12, Try.ntmps12
  go_wp2_with (first | ((with_reducible refine wpList_load48 X ?_ ?_); (focus (exact ⟨_, _, rfl, hsz, range_of ((bytes_block hX rfl hl.out hb.out).below ((Below.refl _ _).alloc (Nat.le_refl _) _)) hX⟩))) | (go_at_call 16; (with_reducible refine (sealedX_any X zs _ hX hl.out hb.out hS.out).mono ?_); rintro e w1 ⟨rfl, hb_w1⟩; have hs_w1 := hb_w1.size; (try simp at hs_w1); have t_1 : w1.there (w.heap.size + 1) 0 10 := (there_below (there_new (by simp) rfl) hb_w1); have c0_1 : w1.cell? ⟨w.heap.size, 0, none⟩ = some (.int .u8 z) := (by have h := (((bytes_block hX rfl hl.out hb.out).below ((Below.refl _ _).alloc (Nat.le_refl _) _)).below hb_w1).cellAt (k := 0) (by omega); rw [Nat.zero_add, hz.out] at h; exact h); have P_1 : BytesAt w1 (some ⟨w.heap.size, 0, none⟩) 48 zs := ((bytes_block hX rfl hl.out hb.out).below ((Below.refl _ _).alloc (Nat.le_refl _) _)).below hb_w1) | ((with_reducible refine wpList_load48 X ?_ ?_); (focus (exact ⟨_, _, rfl, hsz, range_of P_1 hX⟩))) | (go_at_call 32; (with_reducible refine (fixed_any zs X _ hX hl hb hF).mono ?_); rintro e w2 ⟨rfl, hb_w2⟩; have t_2 := there_below t_1 hb_w2) | ((with_reducible refine wpList_put31 (w.heap.size + 1) rm0 ?_ ?_); (focus (exact ⟨rfl, rfl, rfl, one_rm _ _ _ _ _ _ _ _ _ _, t_2⟩))))
  refine bodyPost_ret (results_ct rfl _ _ rfl (load31_same t_2 rfl)) rfl ⟨rfl, ?_⟩
  exact Below.setCells _ _ (by (repeat' (first | (with_reducible exact Below.refl _ _) | (with_reducible assumption) | (with_reducible refine below_drewN ?_ _) | (with_reducible refine Below.drew ?_) | ((with_reducible refine Below.alloc ?_ ?_ _); (rotate_left; focus (first | omega | (simp; done) | (simp; omega)))) | ((with_reducible refine Below.setCell ?_ ?_ _); (rotate_left; focus (first | omega | (simp; done) | (simp; omega)))) | (with_reducible refine Below.grown ?_ (by assumption) (by first | omega | (simp; omega)) (by simp [Value.ownBlock]; try omega)) | (with_reducible refine below_then ?_ (Aft.below _)) | (with_reducible apply below_then; rotate_left; assumption)))) (by omega)
def num2 (zs : List Int) (k : Nat) : Int := zs[k]?.getD 0 * 256 + zs[k + 1]?.getD 0
def num4 (zs : List Int) (k : Nat) : Int := ((zs[k]?.getD 0 * 256 + zs[k + 1]?.getD 0) * 256 + zs[k + 2]?.getD 0) * 256 + zs[k + 3]?.getD 0
theorem slice_at {w : World} {b n : Nat} {zs : List Int} (h : BytesAt w (some ⟨b, 0, none⟩) 48 zs) (k : Nat) (hk : k + n ≤ 48) (hk0 : 0 < k) : BytesAt w (some ⟨b, k, none⟩) n ((zs.drop k).take n) := by
  by_cases hn : n = 0
  · subst hn
    exact ⟨by simp, by omega, fun j => by simp, fun h => by omega⟩
  · have h1 := bytes_tail (m := k) h (by omega)
    rw [Nat.zero_add] at h1
    exact h1.head (by omega) (by omega)
theorem get2_at {w : World} {b : Nat} {c : Nat} {zs : List Int} (h : BytesAt w (some ⟨b, 0, none⟩) 48 zs) (k : Nat) (hk : k + 2 ≤ 48) (hk0 : 0 < k) :
    Calls Try.prog 33 #[.slice (some ⟨b, k, none⟩) 2 c] w fun e w' => e = .returned (.int .u32 (num2 zs k)) ∧ w = w' := by
  have h1 := slice_at (n := 2) h k hk hk0
  have hl := h.length
  have e : (zs.drop k).take 2 = [zs[k]?.getD 0, zs[k + 1]?.getD 0] := by
    rw [List.drop_eq_getElem_cons (by omega), List.drop_eq_getElem_cons (by omega), List.getElem?_eq_getElem (by omega), List.getElem?_eq_getElem (by omega)]
    rfl
  rw [e] at h1
  exact get2_any h1
theorem get4_at {w : World} {b : Nat} {c : Nat} {zs : List Int} (h : BytesAt w (some ⟨b, 0, none⟩) 48 zs) (k : Nat) (hk : k + 4 ≤ 48) (hk0 : 0 < k) :
    Calls Try.prog 33 #[.slice (some ⟨b, k, none⟩) 4 c] w fun e w' => e = .returned (.int .u32 (num4 zs k)) ∧ w = w' := by
  have h1 := slice_at (n := 4) h k hk hk0
  have hl := h.length
  have e : (zs.drop k).take 4 = [zs[k]?.getD 0, zs[k + 1]?.getD 0, zs[k + 2]?.getD 0, zs[k + 3]?.getD 0] := by
    rw [List.drop_eq_getElem_cons (by omega), List.drop_eq_getElem_cons (by omega), List.drop_eq_getElem_cons (by omega), List.drop_eq_getElem_cons (by omega), List.getElem?_eq_getElem (by omega), List.getElem?_eq_getElem (by omega), List.getElem?_eq_getElem (by omega), List.getElem?_eq_getElem (by omega)]
    rfl
  rw [e] at h1
  exact get4_any h1
theorem num2_bd {zs : List Int} (hb : allB zs) (k : Nat) : 0 ≤ num2 zs k ∧ num2 zs k < 65536 := by
  have h0 := byte_B hb k; have h1 := byte_B hb (k + 1)
  unfold isB at h0 h1; unfold num2; omega
theorem num4_bd {zs : List Int} (hb : allB zs) (k : Nat) : 0 ≤ num4 zs k ∧ num4 zs k < 4294967296 := by
  have h0 := byte_B hb k; have h1 := byte_B hb (k + 1); have h2 := byte_B hb (k + 2); have h3 := byte_B hb (k + 3)
  unfold isB at h0 h1 h2 h3; unfold num4; omega
theorem wrap16 {x : Int} (h0 : 0 ≤ x) (h1 : x < 65536) : IntKind.u16.wrap x = x := by
  have e : IntKind.u16.wrap x = x % 65536 := by simp [IntKind.wrap, IntKind.bits, IntKind.signed]
  rw [e]; omega
theorem unpack_read (zs : List Int) (X : Array Value) (w : World) (hX : Hid (X = (u8s zs).toArray)) (hl : Hid (zs.length = 48)) (hb : Hid (allB zs)) (hS : Hid (decide (sealZ zs = zs) = true)) (z : Int) (hz : Hid (zs[0]?.getD 0 = z)) (hz1 : (z != 1) = false) (hF : Hid (fixZ zs = true)) (er cc mc ql sn : Int) (her : Hid (num2 zs 2 = er)) (hcc : Hid (num2 zs 4 = cc)) (hmc : Hid (num2 zs 6 = mc)) (hql : Hid (num4 zs 8 = ql)) (hsn : Hid (num4 zs 12 = sn)) (e0 : 0 ≤ er) (e1 : er < 65536) (c0 : 0 ≤ cc) (c1 : cc < 65536) (m0 : 0 ≤ mc) (m1 : mc < 65536) (p : Int) (hp : Hid (zs[1]?.getD 0 = p)) (bk nr ci ni ra : Bool) (f0 : (bits .and .u8 p 128 != 0) = bk) (f1 : (bits .and .u8 p 64 != 0) = nr) (f2 : (bits .and .u8 p 32 != 0) = ci) (f3 : (bits .and .u8 p 16 != 0) = ni) (f4 : (bits .and .u8 p 8 != 0) = ra) (R : Bool) (hR : Hid ((rgtZ er && rgtZ cc && rgtZ mc) = R)) :
    Calls Try.prog 12 #[.agg X] w fun e w' => (if R then e = .returned (.tuple #[.agg (rmV bk nr ci ni ra er cc mc ql sn).toArray, .int .i64 0]) else e = .returned (.tuple #[.agg rm0.toArray, .int .i64 11])) ∧ Below w.heap.size w w' := by
  have hsz : X.size = 48 := sizeP hX hl.out
  have we : IntKind.u16.wrap er = er := wrap16 e0 e1
  have wc : IntKind.u16.wrap cc = cc := wrap16 c0 c1
  have wm : IntKind.u16.wrap mc = mc := wrap16 m0 m1
  have hbd : ∀ w, (Instr.build 31 #[(5, .int .u16 er), (6, .int .u16 cc), (7, .int .u16 mc), (8, .int .u32 ql), (9, .int .u32 sn)]).run Try.prog w = .ok (.agg (rmV false false false false false er cc mc ql sn).toArray) w := fun w => run_build w _ _ _ (by kernel_rfl)
  go_enter Try.func12, Try.ntmps12
  go_wp2_with (first | ((with_reducible refine wpList_load48 X ?_ ?_); (focus (exact ⟨_, _, rfl, hsz, range_of ((bytes_block hX rfl hl.out hb.out).below ((Below.refl _ _).alloc (Nat.le_refl _) _)) hX⟩))) | (go_at_call 16; (with_reducible refine (sealedX_any X zs _ hX hl.out hb.out hS.out).mono ?_); rintro e w1 ⟨rfl, hb_w1⟩; have hs_w1 := hb_w1.size; (try simp at hs_w1); have t_1 : w1.there (w.heap.size + 1) 0 10 := (there_below (there_new (by simp) rfl) hb_w1); have c0_1 : w1.cell? ⟨w.heap.size, 0, none⟩ = some (.int .u8 z) := (by have h := (((bytes_block hX rfl hl.out hb.out).below ((Below.refl _ _).alloc (Nat.le_refl _) _)).below hb_w1).cellAt (k := 0) (by omega); rw [Nat.zero_add, hz.out] at h; exact h); have P_1 : BytesAt w1 (some ⟨w.heap.size, 0, none⟩) 48 zs := ((bytes_block hX rfl hl.out hb.out).below ((Below.refl _ _).alloc (Nat.le_refl _) _)).below hb_w1) | ((with_reducible refine wpList_load48 X ?_ ?_); (focus (exact ⟨_, _, rfl, hsz, range_of P_1 hX⟩))) | (go_at_call 32; (with_reducible refine (fixed_any zs X _ hX hl hb hF).mono ?_); rintro e w2 ⟨rfl, hb_w2⟩; have t_2 := there_below t_1 hb_w2; have P_2 := P_1.below hb_w2; have hs_w2 := hb_w2.size))
  have B2 : Below w.heap.size w w2 := by (repeat' (first | (with_reducible exact Below.refl _ _) | (with_reducible assumption) | (with_reducible refine below_drewN ?_ _) | (with_reducible refine Below.drew ?_) | ((with_reducible refine Below.alloc ?_ ?_ _); (rotate_left; focus (first | omega | (simp; done) | (simp; omega)))) | ((with_reducible refine Below.setCell ?_ ?_ _); (rotate_left; focus (first | omega | (simp; done) | (simp; omega)))) | (with_reducible refine Below.grown ?_ (by assumption) (by first | omega | (simp; omega)) (by simp [Value.ownBlock]; try omega)) | (with_reducible refine below_then ?_ (Aft.below _)) | (with_reducible apply below_then; rotate_left; assumption)))
  have hb1 : w.heap.size + 1 < w2.heap.size := by omega
  have c1_2 : w2.cell? ⟨w.heap.size, 1, none⟩ = some (.int .u8 p) := by
    have h := P_2.cellAt (k := 1) (by omega)
    rw [Nat.zero_add, hp.out] at h; exact h
  have pb : 0 ≤ p ∧ p < 256 := by rw [← hp.out]; exact P_2.byte 1
  clear c0_1 t_1 P_1 hb_w2 hb_w1 hs_w1 hs_w2
  refine Code.wp_mono (Q := fun e a' w' => e = .normal ∧ a' = ({ tmps := #[.agg X, .pointer (some ⟨w.heap.size, 0, none⟩), .pointer (some ⟨w.heap.size + 1, 0, none⟩), .int .i64 0, .pointer (some ⟨w2.heap.size, 0, none⟩), undef, undef, .bool false, .agg X, .bool true, .bool false, undef, .bool false, .pointer (some ⟨w.heap.size, 0, none⟩), .int .u8 z, .bool false, undef, .bool false, .agg X, .bool true, .bool false, undef, .slice (some ⟨w.heap.size, 2, none⟩) 2 46, .int .u32 er, .int .u16 er, .slice (some ⟨w.heap.size, 4, none⟩) 2 44, .int .u32 cc, .int .u16 cc, .slice (some ⟨w.heap.size, 6, none⟩) 2 42, .int .u32 mc, .int .u16 mc, .slice (some ⟨w.heap.size, 8, none⟩) 4 40, .int .u32 ql, .slice (some ⟨w.heap.size, 12, none⟩) 4 36, .int .u32 sn, .agg #[.bool false, .bool false, .bool false, .bool false, .bool false, .int .u16 er, .int .u16 cc, .int .u16 mc, .int .u32 ql, .int .u32 sn], undef, undef, undef, undef, undef, undef, undef, undef, undef, undef, undef, undef, undef, undef, undef, undef, undef, undef], defers := [] } : Act) ∧ w' = (w2.alloc (.cells #[.bool false, .bool false, .bool false, .bool false, .bool false, .int .u16 er, .int .u16 cc, .int .u16 mc, .int .u32 ql, .int .u32 sn] 31)).drew) ?rest ?first
  case first =>
    clear f0 f1 f2 f3 f4 hR t_2 B2 hp c1_2 pb
    go_region_held3 (fun w' => True) (go_keep) (first | (go_at_call 33; (with_reducible refine (get2_at (zs := zs) (b := w.heap.size) ?_ 2 (by omega) (by omega)).mono ?_); (focus (exact P_2.below (by (repeat' (first | (with_reducible exact Below.refl _ _) | (with_reducible assumption) | (with_reducible refine below_drewN ?_ _) | (with_reducible refine Below.drew ?_) | ((with_reducible refine Below.alloc ?_ ?_ _); (rotate_left; focus (first | omega | (simp; done) | (simp; omega)))) | ((with_reducible refine Below.setCell ?_ ?_ _); (rotate_left; focus (first | omega | (simp; done) | (simp; omega)))) | (with_reducible refine Below.grown ?_ (by assumption) (by first | omega | (simp; omega)) (by simp [Value.ownBlock]; try omega)) | (with_reducible refine below_then ?_ (Aft.below _)) | (with_reducible apply below_then; rotate_left; assumption)))))); rw [her.out]; rintro e w' ⟨rfl, rfl⟩) | (go_at_call 33; (with_reducible refine (get2_at (zs := zs) (b := w.heap.size) ?_ 4 (by omega) (by omega)).mono ?_); (focus (exact P_2.below (by (repeat' (first | (with_reducible exact Below.refl _ _) | (with_reducible assumption) | (with_reducible refine below_drewN ?_ _) | (with_reducible refine Below.drew ?_) | ((with_reducible refine Below.alloc ?_ ?_ _); (rotate_left; focus (first | omega | (simp; done) | (simp; omega)))) | ((with_reducible refine Below.setCell ?_ ?_ _); (rotate_left; focus (first | omega | (simp; done) | (simp; omega)))) | (with_reducible refine Below.grown ?_ (by assumption) (by first | omega | (simp; omega)) (by simp [Value.ownBlock]; try omega)) | (with_reducible refine below_then ?_ (Aft.below _)) | (with_reducible apply below_then; rotate_left; assumption)))))); rw [hcc.out]; rintro e w' ⟨rfl, rfl⟩) | (go_at_call 33; (with_reducible refine (get2_at (zs := zs) (b := w.heap.size) ?_ 6 (by omega) (by omega)).mono ?_); (focus (exact P_2.below (by (repeat' (first | (with_reducible exact Below.refl _ _) | (with_reducible assumption) | (with_reducible refine below_drewN ?_ _) | (with_reducible refine Below.drew ?_) | ((with_reducible refine Below.alloc ?_ ?_ _); (rotate_left; focus (first | omega | (simp; done) | (simp; omega)))) | ((with_reducible refine Below.setCell ?_ ?_ _); (rotate_left; focus (first | omega | (simp; done) | (simp; omega)))) | (with_reducible refine Below.grown ?_ (by assumption) (by first | omega | (simp; omega)) (by simp [Value.ownBlock]; try omega)) | (with_reducible refine below_then ?_ (Aft.below _)) | (with_reducible apply below_then; rotate_left; assumption)))))); rw [hmc.out]; rintro e w' ⟨rfl, rfl⟩) | (go_at_call 33; (with_reducible refine (get4_at (zs := zs) (b := w.heap.size) ?_ 8 (by omega) (by omega)).mono ?_); (focus (exact P_2.below (by (repeat' (first | (with_reducible exact Below.refl _ _) | (with_reducible assumption) | (with_reducible refine below_drewN ?_ _) | (with_reducible refine Below.drew ?_) | ((with_reducible refine Below.alloc ?_ ?_ _); (rotate_left; focus (first | omega | (simp; done) | (simp; omega)))) | ((with_reducible refine Below.setCell ?_ ?_ _); (rotate_left; focus (first | omega | (simp; done) | (simp; omega)))) | (with_reducible refine Below.grown ?_ (by assumption) (by first | omega | (simp; omega)) (by simp [Value.ownBlock]; try omega)) | (with_reducible refine below_then ?_ (Aft.below _)) | (with_reducible apply below_then; rotate_left; assumption)))))); rw [hql.out]; rintro e w' ⟨rfl, rfl⟩) | (go_at_call 33; (with_reducible refine (get4_at (zs := zs) (b := w.heap.size) ?_ 12 (by omega) (by omega)).mono ?_); (focus (exact P_2.below (by (repeat' (first | (with_reducible exact Below.refl _ _) | (with_reducible assumption) | (with_reducible refine below_drewN ?_ _) | (with_reducible refine Below.drew ?_) | ((with_reducible refine Below.alloc ?_ ?_ _); (rotate_left; focus (first | omega | (simp; done) | (simp; omega)))) | ((with_reducible refine Below.setCell ?_ ?_ _); (rotate_left; focus (first | omega | (simp; done) | (simp; omega)))) | (with_reducible refine Below.grown ?_ (by assumption) (by first | omega | (simp; omega)) (by simp [Value.ownBlock]; try omega)) | (with_reducible refine below_then ?_ (Aft.below _)) | (with_reducible apply below_then; rotate_left; assumption)))))); rw [hsn.out]; rintro e w' ⟨rfl, rfl⟩))
    all_goals exact ⟨rfl, rfl, rfl⟩
  case rest =>
    rintro e a' w' ⟨rfl, rfl, rfl⟩
    clear hbd we wc wm
    have i0 : ∀ b : Nat, ∀ w, (Instr.index 56 (.agg #[.pointer (some ⟨b, 0, none⟩), .pointer (some ⟨b, 1, none⟩), .pointer (some ⟨b, 2, none⟩), .pointer (some ⟨b, 3, none⟩), .pointer (some ⟨b, 4, none⟩)]) (.int .i64 0)).run Try.prog w = .ok (.pointer (some ⟨b, 0, none⟩)) w := fun _ _ => by kernel_rfl
    have i1 : ∀ b : Nat, ∀ w, (Instr.index 56 (.agg #[.pointer (some ⟨b, 0, none⟩), .pointer (some ⟨b, 1, none⟩), .pointer (some ⟨b, 2, none⟩), .pointer (some ⟨b, 3, none⟩), .pointer (some ⟨b, 4, none⟩)]) (.int .i64 1)).run Try.prog w = .ok (.pointer (some ⟨b, 1, none⟩)) w := fun _ _ => by kernel_rfl
    have i2 : ∀ b : Nat, ∀ w, (Instr.index 56 (.agg #[.pointer (some ⟨b, 0, none⟩), .pointer (some ⟨b, 1, none⟩), .pointer (some ⟨b, 2, none⟩), .pointer (some ⟨b, 3, none⟩), .pointer (some ⟨b, 4, none⟩)]) (.int .i64 2)).run Try.prog w = .ok (.pointer (some ⟨b, 2, none⟩)) w := fun _ _ => by kernel_rfl
    have i3 : ∀ b : Nat, ∀ w, (Instr.index 56 (.agg #[.pointer (some ⟨b, 0, none⟩), .pointer (some ⟨b, 1, none⟩), .pointer (some ⟨b, 2, none⟩), .pointer (some ⟨b, 3, none⟩), .pointer (some ⟨b, 4, none⟩)]) (.int .i64 3)).run Try.prog w = .ok (.pointer (some ⟨b, 3, none⟩)) w := fun _ _ => by kernel_rfl
    have i4 : ∀ b : Nat, ∀ w, (Instr.index 56 (.agg #[.pointer (some ⟨b, 0, none⟩), .pointer (some ⟨b, 1, none⟩), .pointer (some ⟨b, 2, none⟩), .pointer (some ⟨b, 3, none⟩), .pointer (some ⟨b, 4, none⟩)]) (.int .i64 4)).run Try.prog w = .ok (.pointer (some ⟨b, 4, none⟩)) w := fun _ _ => by kernel_rfl
    generalize hW : World.drew _ = W
    have RM : RmAt W w2.heap.size false false false false false er cc mc ql sn := by rw [← hW]; exact rmAt_new.below (Below.drew (Below.refl _ _))
    have RF : ∀ o, W.frozen? ⟨w2.heap.size, o, none⟩ = false := fun o => by rw [← hW]; exact frozen_top rfl
    have BW : Below w2.heap.size w2 W := by rw [← hW]; (repeat' (first | (with_reducible exact Below.refl _ _) | (with_reducible assumption) | (with_reducible refine below_drewN ?_ _) | (with_reducible refine Below.drew ?_) | ((with_reducible refine Below.alloc ?_ ?_ _); (rotate_left; focus (first | omega | (simp; done) | (simp; omega)))) | ((with_reducible refine Below.setCell ?_ ?_ _); (rotate_left; focus (first | omega | (simp; done) | (simp; omega)))) | (with_reducible refine Below.grown ?_ (by assumption) (by first | omega | (simp; omega)) (by simp [Value.ownBlock]; try omega)) | (with_reducible refine below_then ?_ (Aft.below _)) | (with_reducible apply below_then; rotate_left; assumption)))
    have hsW : w2.heap.size < W.heap.size := by rw [← hW]; simp
    clear hW
    have c1_W := cell_keep BW c1_2
    have t_W := there_below t_2 BW
    go_wp2_with (go_at_call 25; refine (set_at w2.heap.size _ hsW).mono ?_; rintro e ws ⟨rfl, hb_ws⟩)
    have RMs := RM.below hb_ws
    have RFs : ∀ o, ws.frozen? ⟨w2.heap.size, o, none⟩ = false := fun o => by rw [hb_ws.frozen (p := ⟨w2.heap.size, o, none⟩) hsW]; exact RF o
    have c1_s := cell_keep hb_ws c1_W
    have t_s := there_below t_W hb_ws
    have Bs : Below w.heap.size w ws := (B2.trans (BW.mono B2.size)).trans (hb_ws.mono (by have := B2.size; omega))
    obtain ⟨b, hbe⟩ : ∃ b, b = w2.heap.size := ⟨_, rfl⟩
    have hbw : w.heap.size + 1 < b := by omega
    have hbs : b < ws.heap.size := by have := hb_ws.size; omega
    rw [← hbe] at RMs RFs ⊢
    clear hbe RM RF c1_W t_W hb_ws BW hsW c1_2 t_2 P_2 B2 hb1
    obtain ⟨r0, r1, r2, r3, r4, r5, r6, r7, r8, r9⟩ := RMs
    have fz0 := RFs 0
    have fz1 := RFs 1
    have fz2 := RFs 2
    have fz3 := RFs 3
    have fz4 := RFs 4
    have hne : ¬ b = w.heap.size := by omega
    have hne2 : ¬ w.heap.size = b := by omega
    refine wp_loop_rounds 6 ?_
    rw [rounds_succ]
    go_wp2
    refine region_tail_b 8 (by kernel_rfl) (by kernel_rfl) rfl ?_
    simp only [List.take_succ_cons, List.take_zero, List.drop_succ_cons, List.drop_zero]
    (repeat (go_big_quiet_step (fail)))
    (refine wpQuiet_nil ?_)
    go_wp2
    rw [rounds_succ]
    go_wp2
    refine region_tail_b 8 (by kernel_rfl) (by kernel_rfl) rfl ?_
    simp only [List.take_succ_cons, List.take_zero, List.drop_succ_cons, List.drop_zero]
    (repeat (go_big_quiet_step (fail)))
    (refine wpQuiet_nil ?_)
    go_wp2
    rw [rounds_succ]
    go_wp2
    refine region_tail_b 8 (by kernel_rfl) (by kernel_rfl) rfl ?_
    simp only [List.take_succ_cons, List.take_zero, List.drop_succ_cons, List.drop_zero]
    (repeat (go_big_quiet_step (fail)))
    (refine wpQuiet_nil ?_)
    go_wp2
    rw [rounds_succ]
    go_wp2
    refine region_tail_b 8 (by kernel_rfl) (by kernel_rfl) rfl ?_
    simp only [List.take_succ_cons, List.take_zero, List.drop_succ_cons, List.drop_zero]
    (repeat (go_big_quiet_step (fail)))
    (refine wpQuiet_nil ?_)
    go_wp2
    rw [rounds_succ]
    go_wp2
    refine region_tail_b 8 (by kernel_rfl) (by kernel_rfl) rfl ?_
    simp only [List.take_succ_cons, List.take_zero, List.drop_succ_cons, List.drop_zero]
    (repeat (go_big_quiet_step (fail)))
    (refine wpQuiet_nil ?_)
    go_wp2
    rw [rounds_succ]
    go_wp2_with (fail)
    generalize hV : World.drew _ = V
    have RMV : RmAt V b bk nr ci ni ra er cc mc ql sn := by
      rw [← hV]
      exact ⟨by (repeat (first | (with_reducible assumption) | ((with_reducible refine cell_top ?_ rfl); first | (with_reducible rfl) | (simp; done)) | (with_reducible apply cell_drew) | (with_reducible apply cell_drewN) | (with_reducible apply cell_set) | ((with_reducible apply cell_off); focus (decide)) | ((with_reducible apply cell_beside); focus (first | omega | (simp; done) | (simp; omega))) | ((with_reducible apply cell_under); focus (first | (simp; done) | (simp; omega))))), by (repeat (first | (with_reducible assumption) | ((with_reducible refine cell_top ?_ rfl); first | (with_reducible rfl) | (simp; done)) | (with_reducible apply cell_drew) | (with_reducible apply cell_drewN) | (with_reducible apply cell_set) | ((with_reducible apply cell_off); focus (decide)) | ((with_reducible apply cell_beside); focus (first | omega | (simp; done) | (simp; omega))) | ((with_reducible apply cell_under); focus (first | (simp; done) | (simp; omega))))), by (repeat (first | (with_reducible assumption) | ((with_reducible refine cell_top ?_ rfl); first | (with_reducible rfl) | (simp; done)) | (with_reducible apply cell_drew) | (with_reducible apply cell_drewN) | (with_reducible apply cell_set) | ((with_reducible apply cell_off); focus (decide)) | ((with_reducible apply cell_beside); focus (first | omega | (simp; done) | (simp; omega))) | ((with_reducible apply cell_under); focus (first | (simp; done) | (simp; omega))))), by (repeat (first | (with_reducible assumption) | ((with_reducible refine cell_top ?_ rfl); first | (with_reducible rfl) | (simp; done)) | (with_reducible apply cell_drew) | (with_reducible apply cell_drewN) | (with_reducible apply cell_set) | ((with_reducible apply cell_off); focus (decide)) | ((with_reducible apply cell_beside); focus (first | omega | (simp; done) | (simp; omega))) | ((with_reducible apply cell_under); focus (first | (simp; done) | (simp; omega))))), by (repeat (first | (with_reducible assumption) | ((with_reducible refine cell_top ?_ rfl); first | (with_reducible rfl) | (simp; done)) | (with_reducible apply cell_drew) | (with_reducible apply cell_drewN) | (with_reducible apply cell_set) | ((with_reducible apply cell_off); focus (decide)) | ((with_reducible apply cell_beside); focus (first | omega | (simp; done) | (simp; omega))) | ((with_reducible apply cell_under); focus (first | (simp; done) | (simp; omega))))), by (repeat (first | (with_reducible assumption) | ((with_reducible refine cell_top ?_ rfl); first | (with_reducible rfl) | (simp; done)) | (with_reducible apply cell_drew) | (with_reducible apply cell_drewN) | (with_reducible apply cell_set) | ((with_reducible apply cell_off); focus (decide)) | ((with_reducible apply cell_beside); focus (first | omega | (simp; done) | (simp; omega))) | ((with_reducible apply cell_under); focus (first | (simp; done) | (simp; omega))))), by (repeat (first | (with_reducible assumption) | ((with_reducible refine cell_top ?_ rfl); first | (with_reducible rfl) | (simp; done)) | (with_reducible apply cell_drew) | (with_reducible apply cell_drewN) | (with_reducible apply cell_set) | ((with_reducible apply cell_off); focus (decide)) | ((with_reducible apply cell_beside); focus (first | omega | (simp; done) | (simp; omega))) | ((with_reducible apply cell_under); focus (first | (simp; done) | (simp; omega))))), by (repeat (first | (with_reducible assumption) | ((with_reducible refine cell_top ?_ rfl); first | (with_reducible rfl) | (simp; done)) | (with_reducible apply cell_drew) | (with_reducible apply cell_drewN) | (with_reducible apply cell_set) | ((with_reducible apply cell_off); focus (decide)) | ((with_reducible apply cell_beside); focus (first | omega | (simp; done) | (simp; omega))) | ((with_reducible apply cell_under); focus (first | (simp; done) | (simp; omega))))), by (repeat (first | (with_reducible assumption) | ((with_reducible refine cell_top ?_ rfl); first | (with_reducible rfl) | (simp; done)) | (with_reducible apply cell_drew) | (with_reducible apply cell_drewN) | (with_reducible apply cell_set) | ((with_reducible apply cell_off); focus (decide)) | ((with_reducible apply cell_beside); focus (first | omega | (simp; done) | (simp; omega))) | ((with_reducible apply cell_under); focus (first | (simp; done) | (simp; omega))))), by (repeat (first | (with_reducible assumption) | ((with_reducible refine cell_top ?_ rfl); first | (with_reducible rfl) | (simp; done)) | (with_reducible apply cell_drew) | (with_reducible apply cell_drewN) | (with_reducible apply cell_set) | ((with_reducible apply cell_off); focus (decide)) | ((with_reducible apply cell_beside); focus (first | omega | (simp; done) | (simp; omega))) | ((with_reducible apply cell_under); focus (first | (simp; done) | (simp; omega)))))⟩
    have t_V : V.there (w.heap.size + 1) 0 10 := by rw [← hV]; (repeat (first | (with_reducible assumption) | (with_reducible refine there_drew ?_) | (with_reducible refine World.there_alloc ?_ _) | (with_reducible refine there_setCell ?_ _ _) | (with_reducible refine there_below ?_ (by assumption)) | exact there_new rfl rfl))
    have BV : Below w.heap.size w V := by rw [← hV]; (repeat' (first | (with_reducible exact Below.refl _ _) | (with_reducible assumption) | (with_reducible refine below_drewN ?_ _) | (with_reducible refine Below.drew ?_) | ((with_reducible refine Below.alloc ?_ ?_ _); (rotate_left; focus (first | omega | (simp; done) | (simp; omega)))) | ((with_reducible refine Below.setCell ?_ ?_ _); (rotate_left; focus (first | omega | (simp; done) | (simp; omega)))) | (with_reducible refine Below.grown ?_ (by assumption) (by first | omega | (simp; omega)) (by simp [Value.ownBlock]; try omega)) | (with_reducible refine below_then ?_ (Aft.below _)) | (with_reducible apply below_then; rotate_left; assumption)))
    clear hV r0 r1 r2 r3 r4 r5 r6 r7 r8 r9 fz0 fz1 fz2 fz3 fz4 i0 i1 i2 i3 i4 f0 f1 f2 f3 f4
    refine (right_at RMV e0 e1 c0 c1 m0 m1 hR.out).mono ?_
    rintro e w' ⟨rfl, rfl⟩
    cases R with
    | false =>
      go_wp2_with (((with_reducible refine wpList_put31 (w.heap.size + 1) rm0 ?_ ?_); (focus (exact ⟨rfl, rfl, rfl, one_rm _ _ _ _ _ _ _ _ _ _, t_V⟩))))
      refine bodyPost_ret (results_ct rfl _ _ rfl (load31_same t_V rfl)) rfl ⟨?_, ?_⟩
      · exact rfl
      · exact Below.setCells _ _ BV (by omega)
    | true =>
      go_wp2_with (first | ((with_reducible refine wpList_load31 (rmV bk nr ci ni ra er cc mc ql sn) ?_ ?_); (focus (exact ⟨_, rfl, rfl, rm_range RMV⟩))) | ((with_reducible refine wpList_put31 (w.heap.size + 1) (rmV bk nr ci ni ra er cc mc ql sn) ?_ ?_); (focus (exact ⟨rfl, rfl, rfl, one_rm _ _ _ _ _ _ _ _ _ _, t_V⟩))))
      refine bodyPost_ret (results_ct rfl _ _ rfl (load31_same t_V rfl)) rfl ⟨?_, ?_⟩
      · exact rfl
      · exact Below.setCells _ _ BV (by omega)
end Go.Proofs.Ytnjjejhniekdcaa
